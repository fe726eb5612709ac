/-
  Find, Add, Take of package entry. By an AI agent.
-/
import Derived.Test.YtahkhieoabbaaaaEntS
namespace Go.Proofs.Ytahkhieoabbaaaa
open Go.RowKit Go.ChangeShapes Go.WideShapes Go.ChangeAt
open Et (E)

def eagg (y : E) : Value := .agg #[.string ⟨y.n.toArray⟩, .int .i64 y.i, .int .i64 y.t]
theorem infoEty : (Try.prog.info? 28).map (fun i => (i.zero, i.size, i.bytes)) = some (some (.agg #[.string ⟨#[]⟩, .int .i64 0, .int .i64 0]), 3, 32) := by kernel_rfl
theorem ecells_one (l : List E) : ∀ u ∈ ecells l, u.oneCell' = true := by
  intro u hu
  unfold ecells at hu
  obtain ⟨p, _, hp⟩ := List.mem_flatMap.1 hu
  simp only [ecell, List.mem_cons, List.not_mem_nil, or_false] at hp
  rcases hp with rfl | rfl | rfl <;> rfl
theorem ecells_take (l : List E) (k : Nat) (hk : k ≤ l.length) : (ecells l).take (k * 3) = ecells (l.take k) := by
  have hs : ecells l = ecells (l.take k) ++ ecells (l.drop k) := by rw [← ecells_app, List.take_append_drop]
  rw [hs, List.take_left' (by rw [ecells_len, List.length_take, Nat.min_eq_left hk])]
theorem ecells_drop (l : List E) (k : Nat) (hk : k ≤ l.length) : (ecells l).drop (k * 3) = ecells (l.drop k) := by
  have hs : ecells l = ecells (l.take k) ++ ecells (l.drop k) := by rw [← ecells_app, List.take_append_drop]
  rw [hs, List.drop_left' (by rw [ecells_len, List.length_take, Nat.min_eq_left hk])]
/-- l[k:]. -/
theorem run_tailE (A : Option Addr) (n c k : Nat) (hk : k ≤ n) (z : Int) (hz : z = k) (W : World) :
    (Instr.slice 22 (.slice A n c) (some (.int .i64 z)) none none).run Try.prog W = .ok (.slice (if c = k then A else A.map (·.add (k * 3))) (n - k) (c - k)) W := by
  subst hz
  rw [run_slice_l _ _ _ _ _ (by kernel_rfl) .i64 _ (by omega) (by omega), Int.toNat_natCast]
  have hs : (sizeOf (Try.prog.elem 22)).run Try.prog W = .ok 3 W := by kernel_rfl
  rw [hs]
  rfl
theorem run_headE (A : Option Addr) (n c k : Nat) (hk : k ≤ c) (z : Int) (hz : z = k) (W : World) :
    (Instr.slice 22 (.slice A n c) none (some (.int .i64 z)) none).run Try.prog W = .ok (.slice A k c) W := by
  subst hz
  rw [run_slice_h _ _ _ _ _ (by kernel_rfl) .i64 _ (by omega) (by omega), Int.toNat_natCast]
  have hs : (sizeOf (Try.prog.elem 22)).run Try.prog W = .ok 3 W := by kernel_rfl
  rw [hs]
  simp [Result.andThen, sliced]
  intro h
  cases A <;> simp [Addr.add]

/-! ### Find -/
set_option maxRecDepth 100000 in
set_option maxHeartbeats 2000000 in
theorem find_any (v : Value) (l : List E) (nm : List UInt8) (w : World) (hl : Ents w w.heap.size v l) (hs : Short l) (hn : nm.length < 1099511627776) :
    Calls Try.prog 13 #[v, .string ⟨nm.toArray⟩] w fun e w' => e = .returned (.tuple #[eagg (Et.findL l nm), .int .i64 (Et.srchE l nm)]) ∧ Below w.heap.size w w' := by
  obtain ⟨A, c, rfl, hlc, hcm, hE⟩ := hl.open_
  have HL := Lib.hid hl
  have HE := Lib.hid hE
  have HF := Lib.hid (show Et.findL l nm = if Et.srchE l nm = 0 then Et.at_ l (Et.pos l nm) else E.zero from rfl)
  clear hl hE
  go_enter Try.func13, Try.ntmps13
  go_upto_region 1 with fail
  generalize hW : w.alloc (.cells _ 28) = w0
  have k4 : Blk w0 w.heap.size 28 [.string ⟨#[]⟩, .int .i64 0, .int .i64 0] := by rw [← hW]; exact Blk.new w _ _
  have b0 : Below w.heap.size w w0 := by rw [← hW]; exact (Below.refl _ _).alloc (Nat.le_refl _) _
  clear hW
  obtain ⟨g, hg⟩ : ∃ g, w.heap.size = g := ⟨_, rfl⟩
  have hg1 : w.heap.size ≤ g := by omega
  rw [hg] at k4 ⊢
  clear hg
  go_wp2_with fail
  refine (search_any _ l nm w0 ((HL.out.below b0).more b0.size) hs hn).mono ?_
  rintro e w1 ⟨i, rfl, hi, b1⟩
  replace k4 := k4.ext b1
  replace b0 := b0.trans (b1.mono b0.size)
  have HI := Lib.hid hi
  clear b1 hi
  have e0 := k4.cell 0
  have e1 := k4.cell 1
  have e2 := k4.cell 2
  have ef := k4.frozen
  by_cases hz : Et.srchE l nm = 0
  · have hip := HI.out (.inl hz)
    have hpl := ((Et.has_pos (Et.may_pw (Et.srch_zero hz).1)).1 (Et.srch_zero hz).2.2).1
    rw [← hip] at hpl
    obtain ⟨b, off, rfl, hbB, h0, h1, h2⟩ := (HE.out.below b0) i hpl
    rw [if_pos hz, ← hip] at HF
    have HZ := Lib.hid hz
    rw [hz]
    clear hz hip HI
    generalize Et.at_ l i = y at *
    go_wp2
    have z4 := ((k4.set_ 0 (.string ⟨y.n.toArray⟩)).set_ 1 (.int .i64 y.i)).set_ 2 (.int .i64 y.t)
    have bz := ((b0.setCell (p := ⟨g, 0, none⟩) hg1 (.string ⟨y.n.toArray⟩)).setCell (p := ⟨g, 1, none⟩) hg1 (.int .i64 y.i)).setCell (p := ⟨g, 2, none⟩) hg1 (.int .i64 y.t)
    refine bodyPost_ret (v := .tuple #[eagg y, .int .i64 0]) (res_cell2 [.string ⟨y.n.toArray⟩, .int .i64 y.i, .int .i64 y.t] _ Try.results13 rfl z4.range Try.underlying28 rfl (by kernel_rfl) rfl) rfl ?_
    exact ⟨by rw [HF.out, HZ.out], bz⟩
  · rw [if_neg hz] at HF
    have hz' : (Et.srchE l nm != 0) = true := bne_iff_ne.2 hz
    obtain ⟨er, her⟩ : ∃ er, Et.srchE l nm = er := ⟨_, rfl⟩
    have HER := Lib.hid her
    rw [her] at hz' ⊢
    clear hz HI her
    go_wp2
    have z4 := ((k4.set_ 0 (.string ⟨#[]⟩)).set_ 1 (.int .i64 0)).set_ 2 (.int .i64 0)
    have bz := ((b0.setCell (p := ⟨g, 0, none⟩) hg1 (.string ⟨#[]⟩)).setCell (p := ⟨g, 1, none⟩) hg1 (.int .i64 0)).setCell (p := ⟨g, 2, none⟩) hg1 (.int .i64 0)
    refine bodyPost_ret (v := .tuple #[eagg E.zero, .int .i64 er]) (res_cell2 [.string ⟨#[]⟩, .int .i64 0, .int .i64 0] _ Try.results13 rfl z4.range Try.underlying28 rfl (by kernel_rfl) rfl) rfl ?_
    exact ⟨by rw [HF.out, HER.out], bz⟩

/-! ### Add, Take -/
theorem run_mkE (n : Nat) (hn : n ≤ 1000) (z : Int) (hz : z = n) (W : World) : (Instr.makeSlice 22 (.int .i64 0) (.int .i64 z)).run Try.prog W = .ok (.slice (some ⟨W.heap.size, 0, none⟩) 0 n) (W.alloc (.cells (madeCells (Value.agg #[.string ⟨#[]⟩, .int .i64 0, .int .i64 0]).cells (n * 3)) 28)) := by
  subst hz
  exact run_mk (P := Try.prog) Try.underlying22 infoEty 0 n (Nat.zero_le _) (by omega) (by omega) W
theorem Ents.take {w : World} {B : Nat} {A : Option Addr} {c k : Nat} {l : List E} (h : Ents w B (.slice A l.length c) l) (hk : k ≤ l.length) : Rds w B 3 (.slice A k c) k (ecells (l.take k)) := by
  have := Rds.head h hk
  rw [ecells_take l k hk] at this
  exact this
theorem Ents.drop {w : World} {B : Nat} {A : Option Addr} {c k : Nat} {l : List E} (h : Ents w B (.slice A l.length c) l) (hk : k ≤ l.length) : Rds w B 3 (.slice (if c = k then A else A.map (·.add (k * 3))) (l.length - k) (c - k)) (l.length - k) (ecells (l.drop k)) := by
  have := Rds.tail h hk
  rw [ecells_drop l k hk] at this
  exact this
theorem own_slice {w : World} {base : Nat} {e : TypeId} {sz n : Nat} {v : Value} {xs : List Value} (h : w.ownsRow base e sz v n xs) : ∃ A c, v = .slice A n c := by
  rcases h.2 with ⟨rfl, rfl⟩ | ⟨g', cap', cur, rfl, _⟩
  · exact ⟨_, _, rfl⟩
  · exact ⟨_, _, rfl⟩
theorem Ents.of_own {w : World} {base n : Nat} {v : Value} {l m : List E} (h : w.ownsRow base 28 3 v n (ecells m)) (hm : m = l) (hn : n = l.length) : Ents w w.heap.size v l := by
  subst hm hn
  exact Rds.of_own h

set_option maxRecDepth 100000 in
set_option maxHeartbeats 4000000 in
theorem add_any (v : Value) (l : List E) (xn : List UInt8) (xi xt : Int) (w : World) (hl : Ents w w.heap.size v l) (hs : Short l) (hn : xn.length < 1099511627776) :
    Calls Try.prog 8 #[v, .agg #[.string ⟨xn.toArray⟩, .int .i64 xi, .int .i64 xt]] w fun e w' => ∃ u, e = .returned (.tuple #[u, .int .i64 (Et.addE l ⟨xn, xi, xt⟩)]) ∧ Ents w' w'.heap.size u (Et.addL l ⟨xn, xi, xt⟩) ∧ Below w.heap.size w w' := by
  obtain ⟨A, c, rfl, hlc, hcm, hE⟩ := hl.open_
  have HL := Lib.hid hl
  have HA := Lib.hid (show Et.addE l ⟨xn, xi, xt⟩ = if Et.mayB l then (if Tl.isN xn then (if Et.inB ⟨xn, xi, xt⟩ then (if Et.hasN l xn then 7 else if 30 ≤ l.length then 8 else 0) else 1) else 11) else 1 from rfl)
  have HS := Lib.hid (show Et.srchE l xn = if Et.mayB l then (if Tl.isN xn then (if Et.hasN l xn then 0 else 6) else 11) else 1 from rfl)
  have HAL := Lib.hid (show Et.addL l ⟨xn, xi, xt⟩ = if Et.addE l ⟨xn, xi, xt⟩ = 0 then l.take (Et.pos l xn) ++ (⟨xn, xi, xt⟩ :: l.drop (Et.pos l xn)) else [] from rfl)
  have HNO : Hid (∀ (k : Int) (W : World), Et.addE l ⟨xn, xi, xt⟩ = k → k ≠ 0 → Below w.heap.size w W → ∃ u, Ending.returned (.tuple #[.slice none 0 0, .int .i64 k]) = .returned (.tuple #[u, .int .i64 (Et.addE l ⟨xn, xi, xt⟩)]) ∧ Ents W W.heap.size u (Et.addL l ⟨xn, xi, xt⟩) ∧ Below w.heap.size w W) := Lib.hid (fun k W h1 h2 h3 => by
    rw [HAL.out, h1, if_neg h2]
    exact ⟨_, rfl, Rds.nil_ _ _ _, h3⟩)
  clear hl hE
  have k3 := Blk.new w 28 #[.string ⟨xn.toArray⟩, .int .i64 xi, .int .i64 xt]
  have b0 := (Below.refl w.heap.size w).alloc (Nat.le_refl _) (.cells #[.string ⟨xn.toArray⟩, .int .i64 xi, .int .i64 xt] 28)
  go_enter Try.func8, Try.ntmps8
  go_wp2_with fail
  obtain ⟨w0, hw0⟩ : ∃ w0, w.alloc (.cells #[.string ⟨xn.toArray⟩, .int .i64 xi, .int .i64 xt] 28) = w0 := ⟨_, rfl⟩
  rw [hw0] at k3 b0 ⊢
  clear hw0
  obtain ⟨g, hg⟩ : ∃ g, w.heap.size = g := ⟨_, rfl⟩
  rw [hg] at k3 ⊢
  clear hg
  refine (search_any _ l xn w0 ((HL.out.below b0).more b0.size) hs hn).mono ?_
  rintro e w1 ⟨i, rfl, hi, b1⟩
  replace k3 := k3.ext b1
  replace b0 := b0.trans (b1.mono b0.size)
  have HI := Lib.hid hi
  clear b1 hi
  cases hm : Et.mayB l with
  | false =>
    rw [hm, if_neg (by decide)] at HA HS
    rw [HS.out]
    clear hm HI
    go_wp2
    go_ret2
    exact HNO.out 1 _ HA.out (by decide) b0
  | true =>
    rw [hm, if_pos rfl] at HA HS
    have HM := Lib.hid hm
    clear hm
    cases hin : Tl.isN xn with
    | false =>
      rw [hin, if_neg (by decide)] at HA HS
      rw [HS.out]
      clear hin HI
      go_wp2
      go_ret2
      exact HNO.out 11 _ HA.out (by decide) b0
    | true =>
      rw [hin, if_pos rfl] at HA HS
      clear hin
      have p0 : w1.cell? ⟨g, 0, none⟩ = some (.string ⟨xn.toArray⟩) := k3.cell 0
      have p1 : w1.cell? ⟨g, 1, none⟩ = some (.int .i64 xi) := k3.cell 1
      have p2 : w1.cell? ⟨g, 2, none⟩ = some (.int .i64 xt) := k3.cell 2
      have hs1 : (Et.srchE l xn == 1) = false := by rw [HS.out]; split <;> decide
      have hs2 : (Et.srchE l xn == 11) = false := by rw [HS.out]; split <;> decide
      obtain ⟨sr, hsr⟩ : ∃ sr, Et.srchE l xn = sr := ⟨_, rfl⟩
      rw [hsr] at hs1 hs2 HS HI ⊢
      clear hsr
      go_wp2_with fail
      refine (isInode_any xn xi xt w1).mono ?_
      rintro e w2 ⟨rfl, b2⟩
      replace k3 := k3.ext b2
      replace b0 := b0.trans (b2.mono b0.size)
      clear b2 p0 p1 p2 hs1 hs2
      cases hib : Et.inB ⟨xn, xi, xt⟩ with
      | false =>
        rw [hib, if_neg (by decide)] at HA
        clear hib HI
        go_wp2
        go_ret2
        exact HNO.out 1 _ HA.out (by decide) b0
      | true =>
        rw [hib, if_pos rfl] at HA
        clear hib
        cases hh : Et.hasN l xn with
        | true =>
          rw [hh, if_pos rfl] at HA HS
          obtain rfl := HS.out
          clear hh HI
          go_wp2
          go_ret2
          exact HNO.out 7 _ HA.out (by decide) b0
        | false =>
          rw [hh, if_neg (by decide)] at HA HS
          obtain rfl := HS.out
          obtain rfl := HI.out (.inr rfl)
          clear hh HI HS
          have h30 := ((Et.may_iff l).1 HM.out).1
          by_cases hful : 30 ≤ l.length
          · have hf : ((l.length : Int) == 30) = true := by rw [beq_iff_eq]; omega
            rw [if_pos hful] at HA
            clear hful
            go_wp2
            go_ret2
            exact HNO.out 8 _ HA.out (by decide) b0
          · have hf : ((l.length : Int) == 30) = false := by rw [beq_eq_false_iff_ne]; omega
            rw [if_neg hful] at HA
            have hple := Et.pos_le l xn
            obtain ⟨ps, hps⟩ : ∃ ps, Et.pos l xn = ps := ⟨_, rfl⟩
            rw [hps] at hple HAL ⊢
            have hmk := fun W => run_mkE (l.length + 1) (by omega) ((l.length : Int) + 1) (by omega) W
            have hhd := fun W => run_headE A l.length c ps (by omega) (ps : Int) rfl W
            clear hps hful
            go_wp2_with (at_builtin; refine stop_ ?_)
            have hsz : (madeCells (Value.agg #[.string ⟨#[]⟩, .int .i64 0, .int .i64 0]).cells ((l.length + 1) * 3)).size = (l.length + 1) * 3 := size_madeCells _ _
            have hown0 := (Blk.new w2 28 (madeCells (Value.agg #[.string ⟨#[]⟩, .int .i64 0, .int .i64 0]).cells ((l.length + 1) * 3))).own (base := w2.heap.size) (Nat.le_refl _) 0 (l.length + 1) 3 (by rw [Array.length_toList]; exact hsz) (Nat.zero_le _) (by rw [maxLen_eq]; omega)
            rw [Nat.zero_mul, List.take_zero] at hown0
            have hk0 : (Value.agg #[.string ⟨#[]⟩, .int .i64 0, .int .i64 0]).cells = #[.string ⟨#[]⟩, .int .i64 0, .int .i64 0] := rfl
            rw [hk0] at hown0
            have hB0 := (Below.refl w2.heap.size w2).alloc (Nat.le_refl _) (.cells (madeCells #[.string ⟨#[]⟩, .int .i64 0, .int .i64 0] ((l.length + 1) * 3)) 28)
            have hLW := HL.out.below b0
            obtain ⟨v1, wa, hruna, howna, hgra, _⟩ := run_append_rds (P := Try.prog) (ty := 22) Try.underlying22 infoEty rfl (by decide) hown0 ((Ents.take hLW hple).ext b0.size hB0) (ecells_one _) (by rw [maxLen_eq]; omega) (by omega) hB0.size
            have hBa := hB0.grown hgra hB0.size (fun j e => (hown0.lt j e).1)
            rw [List.nil_append, Nat.zero_add] at howna
            refine wpList_append_run rfl _ _ _ rfl rfl rfl hruna ?_
            obtain ⟨A1, c1, rfl⟩ := own_slice howna
            have k3a := k3.ext hBa
            clear hruna hgra hown0 hB0 hsz hk0
            have p0 : wa.cell? ⟨g, 0, none⟩ = some (.string ⟨xn.toArray⟩) := k3a.cell 0
            have p1 : wa.cell? ⟨g, 1, none⟩ = some (.int .i64 xi) := k3a.cell 1
            have p2 : wa.cell? ⟨g, 2, none⟩ = some (.int .i64 xt) := k3a.cell 2
            clear hmk hhd hf
            have hsl := fun W => run_tailE A l.length c ps hple (ps : Int) rfl W
            generalize hT : (if c = ps then A else A.map (·.add (ps * 3))) = T at hsl
            have hTT := Lib.hid hT
            clear hT
            go_wp2_with (at_builtin; refine stop_ ?_)
            refine wpList_append_elem rfl _ _ rfl rfl rfl (by simp) Try.underlying22 infoEty rfl (by decide) howna rfl (by simp [Value.oneCell']) (by rw [maxLen_eq]; omega) (by omega) hBa.size ?_
            rintro v2 wb hownb hgrb
            have hBb := hBa.grown hgrb hBa.size (fun j e => (howna.lt j e).1)
            obtain ⟨A2, c2, rfl⟩ := own_slice hownb
            clear hgrb howna p0 p1 p2 k3a hBa
            go_wp2_with (at_builtin; refine stop_ ?_)
            have hdr := Ents.drop hLW hple
            rw [hTT.out] at hdr
            obtain ⟨v3, wc, hrunc, hownc, hgrc, _⟩ := run_append_rds (P := Try.prog) (ty := 22) Try.underlying22 infoEty rfl (by decide) hownb (hdr.ext b0.size hBb) (ecells_one _) (by rw [maxLen_eq]; omega) (by omega) hBb.size
            have hBc := hBb.grown hgrc hBb.size (fun j e => (hownb.lt j e).1)
            refine wpList_append_run rfl _ _ _ rfl rfl rfl hrunc ?_
            obtain ⟨A3, c3, rfl⟩ := own_slice hownc
            clear hrunc hgrc hownb hBb hdr hsl
            go_wp2
            go_ret2
            refine ⟨.slice A3 (ps + 1 + (l.length - ps)) c3, by rw [HA.out]; rfl, ?_, b0.trans (hBc.mono b0.size)⟩
            rw [HAL.out, HA.out, if_pos rfl]
            refine Ents.of_own (base := w2.heap.size) (m := l.take ps ++ (⟨xn, xi, xt⟩ :: l.drop ps)) (n := ps + 1 + (l.length - ps)) ?_ rfl ?_
            · have hcc : ecells (l.take ps ++ (⟨xn, xi, xt⟩ :: l.drop ps)) = ecells (l.take ps) ++ [Value.string ⟨xn.toArray⟩, .int .i64 xi, .int .i64 xt] ++ ecells (l.drop ps) := by
                rw [ecells_app, ecells_cons, List.append_assoc]
                rfl
              rw [hcc]
              exact hownc
            · rw [List.length_append, List.length_cons, List.length_take, List.length_drop, Nat.min_eq_left hple]
              omega

set_option maxRecDepth 100000 in
set_option maxHeartbeats 4000000 in
theorem take_any (v : Value) (l : List E) (nm : List UInt8) (w : World) (hl : Ents w w.heap.size v l) (hs : Short l) (hn : nm.length < 1099511627776) :
    Calls Try.prog 16 #[v, .string ⟨nm.toArray⟩] w fun e w' => ∃ u, e = .returned (.tuple #[u, .int .i64 (Et.srchE l nm)]) ∧ Ents w' w'.heap.size u (Et.takeL l nm) ∧ Below w.heap.size w w' := by
  obtain ⟨A, c, rfl, hlc, hcm, hE⟩ := hl.open_
  have HL := Lib.hid hl
  have HT := Lib.hid (show Et.takeL l nm = if Et.srchE l nm = 0 then l.take (Et.pos l nm) ++ l.drop (Et.pos l nm + 1) else [] from rfl)
  clear hl hE
  go_enter Try.func16, Try.ntmps16
  go_wp2_with fail
  refine (search_any _ l nm w HL.out hs hn).mono ?_
  rintro e w2 ⟨i, rfl, hi, b0⟩
  have HI := Lib.hid hi
  clear hi
  by_cases hz : Et.srchE l nm = 0
  · have hip := HI.out (.inl hz)
    have hpl := ((Et.has_pos (Et.may_pw (Et.srch_zero hz).1)).1 (Et.srch_zero hz).2.2).1
    have h30 := ((Et.may_iff l).1 (Et.srch_zero hz).1).1
    subst hip
    rw [if_pos hz] at HT
    have HZ := Lib.hid hz
    rw [hz]
    have hple := Nat.le_of_lt hpl
    obtain ⟨ps, hps⟩ : ∃ ps, Et.pos l nm = ps := ⟨_, rfl⟩
    rw [hps] at hple hpl HT ⊢
    have hmk := fun W => run_mkE (l.length - 1) (by omega) ((l.length : Int) - 1) (by omega) W
    have hhd := fun W => run_headE A l.length c ps (by omega) (ps : Int) rfl W
    clear hps hz HI
    go_wp2_with (at_builtin; refine stop_ ?_)
    have hsz : (madeCells (Value.agg #[.string ⟨#[]⟩, .int .i64 0, .int .i64 0]).cells ((l.length - 1) * 3)).size = (l.length - 1) * 3 := size_madeCells _ _
    have hown0 := (Blk.new w2 28 (madeCells (Value.agg #[.string ⟨#[]⟩, .int .i64 0, .int .i64 0]).cells ((l.length - 1) * 3))).own (base := w2.heap.size) (Nat.le_refl _) 0 (l.length - 1) 3 (by rw [Array.length_toList]; exact hsz) (Nat.zero_le _) (by rw [maxLen_eq]; omega)
    rw [Nat.zero_mul, List.take_zero] at hown0
    have hk0 : (Value.agg #[.string ⟨#[]⟩, .int .i64 0, .int .i64 0]).cells = #[.string ⟨#[]⟩, .int .i64 0, .int .i64 0] := rfl
    rw [hk0] at hown0
    have hB0 := (Below.refl w2.heap.size w2).alloc (Nat.le_refl _) (.cells (madeCells #[.string ⟨#[]⟩, .int .i64 0, .int .i64 0] ((l.length - 1) * 3)) 28)
    have hLW := HL.out.below b0
    obtain ⟨v1, wa, hruna, howna, hgra, _⟩ := run_append_rds (P := Try.prog) (ty := 22) Try.underlying22 infoEty rfl (by decide) hown0 ((Ents.take hLW hple).ext b0.size hB0) (ecells_one _) (by rw [maxLen_eq]; omega) (by omega) hB0.size
    have hBa := hB0.grown hgra hB0.size (fun j e => (hown0.lt j e).1)
    rw [List.nil_append, Nat.zero_add] at howna
    refine wpList_append_run rfl _ _ _ rfl rfl rfl hruna ?_
    obtain ⟨A1, c1, rfl⟩ := own_slice howna
    clear hruna hgra hown0 hB0 hsz hk0 hmk hhd
    have hsl := fun W => run_tailE A l.length c (ps + 1) hpl ((ps : Int) + 1) rfl W
    generalize hT : (if c = ps + 1 then A else A.map (·.add ((ps + 1) * 3))) = T at hsl
    have hTT := Lib.hid hT
    clear hT
    go_wp2_with (at_builtin; refine stop_ ?_)
    have hdr := Ents.drop hLW hpl
    rw [hTT.out] at hdr
    obtain ⟨v3, wc, hrunc, hownc, hgrc, _⟩ := run_append_rds (P := Try.prog) (ty := 22) Try.underlying22 infoEty rfl (by decide) howna (hdr.ext b0.size hBa) (ecells_one _) (by rw [maxLen_eq]; omega) (by omega) hBa.size
    have hBc := hBa.grown hgrc hBa.size (fun j e => (howna.lt j e).1)
    refine wpList_append_run rfl _ _ _ rfl rfl rfl hrunc ?_
    obtain ⟨A3, c3, rfl⟩ := own_slice hownc
    clear hrunc hgrc howna hBa hdr hsl
    go_wp2
    go_ret2
    refine ⟨.slice A3 (ps + (l.length - (ps + 1))) c3, by rw [HZ.out]; rfl, ?_, b0.trans (hBc.mono b0.size)⟩
    rw [HT.out]
    refine Ents.of_own (base := w2.heap.size) (m := l.take ps ++ l.drop (ps + 1)) (n := ps + (l.length - (ps + 1))) ?_ rfl ?_
    · rw [ecells_app]
      exact hownc
    · rw [List.length_append, List.length_take, List.length_drop, Nat.min_eq_left hple]
  · rw [if_neg hz] at HT
    have hz' : (Et.srchE l nm != 0) = true := bne_iff_ne.2 hz
    obtain ⟨er, her⟩ : ∃ er, Et.srchE l nm = er := ⟨_, rfl⟩
    have HER := Lib.hid her
    rw [her] at hz' ⊢
    clear hz HI her
    go_wp2
    go_ret2
    exact ⟨.slice none 0 0, by rw [HER.out]; rfl, by rw [HT.out]; exact Rds.nil_ _ _ _, b0⟩
end Go.Proofs.Ytahkhieoabbaaaa
