/-
  TitleWhole: what is made of any text is a name, of a name itself; heads of a well formed text are well formed, and have as many runes as are asked. For every input.
-/
import Derived.Test.YtkgegjifnegknaaTitleL
import Derived.Test.YtkgegjifnegknaaPlain
import Derived.ChangeMaps5
namespace Go.Proofs.Ytkgegjifnegknaa
open Go.ChangeShapes Go.WideShapes Go.ChangeAt Go.RowKit

set_option maxRecDepth 100000 in
set_option maxHeartbeats 4000000 in
theorem titleWhole_walk (w : World) (l : List UInt8) (n : Int) (hn : 0 ≤ n ∧ n < 256) :
    Calls Try.prog 6 #[.string ⟨l.toArray⟩, .int .u8 n] w fun e w' => e = .returned (.bool true) ∧ Below w.heap.size w w' := by
  go_enter Try.func6, Try.ntmps6
  go_wp2_with (go_at_call 10; refine (few_any _ _).mono ?_; rintro e w' ⟨rfl, rfl⟩)
  have hla : (l.take 200).length ≤ 200 := by rw [List.length_take]; omega
  generalize l.take 200 = q at *
  refine (fit_any q _ (by omega)).mono ?_
  rintro e w1 ⟨rfl, b1⟩
  have hif := Tl.isN_fit q
  have hfl : (Tl.fit q).length ≤ 24 := ((Tl.isN_iff _).1 hif).2.2.1
  have HI : ∀ W, Calls Try.prog 13 #[.string ⟨(Tl.fit q).toArray⟩] W fun e w' => e = .returned (.bool true) ∧ Below W.heap.size W w' := fun W => by
    have := is_any (Tl.fit q) W (by omega)
    rw [hif] at this
    exact this
  have HF : ∀ W, Calls Try.prog 18 #[.string ⟨(Tl.fit q).toArray⟩] W fun e w' => e = .returned (.string ⟨(Tl.fit q).toArray⟩) ∧ Below W.heap.size W w' := fun W => by
    have := fit_any (Tl.fit q) W (by omega)
    rw [Tl.fit_fit] at this
    exact this
  have hs : Tl.isN q = true → ((⟨(Tl.fit q).toArray⟩ : ByteArray).toList != (⟨q.toArray⟩ : ByteArray).toList) = false := fun h => by
    rw [Tl.fit_isN q h]; simp
  have hp := Tl.head_pre q n
  have hle := hp.1
  have hhc := Tl.head_cnt q n
  have hho := Tl.head_odd q n
  have hct := Tl.cnt_all q
  have hrl := Tl.runes_len q
  have hsz1 := ba_size q
  have hsz2 := ba_size (Tl.headN q n)
  have hext : (⟨q.toArray⟩ : ByteArray).extract 0 (Tl.headN q n).length = ⟨(Tl.headN q n).toArray⟩ := by rw [ba_take, hp.2]
  have hqi : ∀ W, Calls Try.prog 13 #[.string ⟨q.toArray⟩] W fun e w' => e = .returned (.bool (Tl.isN q)) ∧ Below W.heap.size W w' := fun W => is_any q W (by omega)
  have hhd : ∀ W, Calls Try.prog 20 #[.string ⟨q.toArray⟩, .int .i64 n] W fun e w' => e = .returned (.string ⟨(Tl.headN q n).toArray⟩) ∧ Below W.heap.size W w' := fun W => head_any q n W (by omega) (by omega)
  have hcq : ∀ W, Calls Try.prog 11 #[.string ⟨q.toArray⟩] W fun e w' => e = .returned (.tuple #[.int .i64 (Tl.cntR q : Nat), .int .i64 (Tl.cntO q : Nat)]) ∧ Below W.heap.size W w' := fun W => count_any _ W (by omega)
  have hHl : (Tl.headN q n).length ≤ 200 := by omega
  have hch : ∀ W, Calls Try.prog 11 #[.string ⟨(Tl.headN q n).toArray⟩] W fun e w' => e = .returned (.tuple #[.int .i64 (Tl.cntR (Tl.headN q n) : Nat), .int .i64 (Tl.cntO (Tl.headN q n) : Nat)]) ∧ Below W.heap.size W w' := fun W => count_any _ W (by omega)
  clear hp hif
  generalize (⟨(Tl.fit q).toArray⟩ : ByteArray) = X at *
  generalize (⟨q.toArray⟩ : ByteArray) = Q at *
  generalize (⟨(Tl.headN q n).toArray⟩ : ByteArray) = D at *
  generalize Tl.isN q = iq at *
  generalize Tl.cntR q = ra at *
  generalize Tl.cntO q = oa at *
  generalize Tl.cntR (Tl.headN q n) = rh at *
  generalize Tl.cntO (Tl.headN q n) = oh at *
  generalize (Tl.headN q n).length = H at *
  have hsl : Q.extract 0 D.size = D := by rw [hsz2]; exact hext
  have HHI := Lib.hid HI
  have HHF := Lib.hid HF
  have HQI := Lib.hid hqi
  have HHD := Lib.hid hhd
  have HCQ := Lib.hid hcq
  have HCH := Lib.hid hch
  have HHO := Lib.hid hho
  have HHC := Lib.hid hhc
  have HS := Lib.hid hs
  have HSL := Lib.hid hsl
  have hDQ : D.size ≤ Q.size := by omega
  have bra : ra + oa ≤ 200 := by omega
  have brh : rh + oh ≤ 200 := by omega
  clear HI HF hqi hhd hcq hch hs hsl hext hsz1 hsz2 hct hrl hho hhc hle
  go_wp2_with fail
  refine (HHI.out _).mono ?_
  rintro e w2 ⟨rfl, b2⟩
  have c2 := b1.trans (b2.mono b1.size)
  go_wp2_with fail
  refine (HHF.out _).mono ?_
  rintro e w3 ⟨rfl, b3⟩
  have c3 := c2.trans (b3.mono c2.size)
  clear b1 b2 b3 c2
  have hXX : (X.toList != X.toList) = false := by simp
  go_wp2_with fail
  refine (HQI.out _).mono ?_
  rintro e w4 ⟨rfl, b4⟩
  have c4 := c3.trans (b4.mono c3.size)
  clear b4 c3 hXX
  have hs' : iq = true → (X.toList == Q.toList) = true := fun h => by have := HS.out h; simpa using this
  clear HS
  have HN : Hid (rh + oh = min n.toNat (ra + oa)) := HHC
  cases iq
  all_goals
    first
      | (have hs := hs' rfl
         clear hs'
         go_wp2_with fail)
      | (clear hs'
         go_wp2_with fail)
    refine (HHD.out _).mono ?_
    rintro e w5 ⟨rfl, b5⟩
    have c5 := c4.trans (b5.mono c4.size)
    go_wp2_with fail
    refine (HCQ.out _).mono ?_
    rintro e w6 ⟨rfl, b6⟩
    have c6 := c5.trans (b6.mono c5.size)
    go_wp2_with fail
    refine (HCH.out _).mono ?_
    rintro e w7 ⟨rfl, b7⟩
    have c7 := c6.trans (b7.mono c6.size)
    clear b5 b6 b7 c4 c5 c6
    have hql : ((Q.extract 0 D.size).toList == D.toList) = true := by rw [HSL.out]; simp
    have fin : ∀ W, Below w.heap.size w W → Calls Try.prog 15 #[] W fun e w' => e = .returned (.bool true) ∧ Below w.heap.size w w' := fun W hW => (awakeT_any W).mono fun e w' h => ⟨h.1, hW.trans (h.2.mono hW.size)⟩
    have FIN := Lib.hid fin
    clear fin HHC HSL
    by_cases hgt : (ra : Int) + oa < n
    · have h1 : ((rh : Int) + oh == (ra : Int) + oa) = true := by
        have := HN.out
        rw [beq_iff_eq]; omega
      by_cases ho : 0 < oa
      · have ho' : (0 : Int) < oa := by omega
        go_wp2_with fail
        refine (FIN.out _ c7).mono ?_
        rintro e w8 ⟨rfl, b8⟩
        go_wp2
        go_ret
        exact ⟨rfl, b8⟩
      · have ho' : ¬ (0 : Int) < oa := by omega
        have h2 : ((oh : Int) == 0) = true := by
          have := HHO.out (by omega)
          rw [beq_iff_eq]; omega
        go_wp2_with fail
        refine (FIN.out _ c7).mono ?_
        rintro e w8 ⟨rfl, b8⟩
        go_wp2
        go_ret
        exact ⟨rfl, b8⟩
    · have h1 : ((rh : Int) + oh == n) = true := by
        have := HN.out
        rw [beq_iff_eq]; omega
      by_cases ho : 0 < oa
      · have ho' : (0 : Int) < oa := by omega
        go_wp2_with fail
        refine (FIN.out _ c7).mono ?_
        rintro e w8 ⟨rfl, b8⟩
        go_wp2
        go_ret
        exact ⟨rfl, b8⟩
      · have ho' : ¬ (0 : Int) < oa := by omega
        have h2 : ((oh : Int) == 0) = true := by
          have := HHO.out (by omega)
          rw [beq_iff_eq]; omega
        go_wp2_with fail
        refine (FIN.out _ c7).mono ?_
        rintro e w8 ⟨rfl, b8⟩
        go_wp2
        go_ret
        exact ⟨rfl, b8⟩

/-- What the walk gives, for every argument and every world that holds the table. -/
theorem titleWhole_contract (H : Type) (enc : TypeId × Value → H) (W : World) (base : Nat) (args : Array Value) (ds gs : List (DataW H)) (before : List MemPlace)
    (hval : ∀ (j : Nat) t v, Try.f6.params[j]? = some t → args[j]? = some v → Value.okWide Try.prog W .any base t v)
    (hW : DataW.Whole enc Try.prog Try.f6.params.toList Rows.titleWholeSpec.vars false W args.toList ds gs before) :
    Calls Try.prog 6 args W fun e W' => ∃ v, e = .returned v ∧ Rows.titleWholeSpec.post enc Try.prog Try.f6 false true false false W args v W' := by
  have hW' := hW
  obtain ⟨p, q, hA0, hV, hps, hfz, hnd⟩ := hW
  have hA : DataW.TrodAll enc Try.prog W 0 (fun _ => true) true Try.f6.params.toList args.toList ds p := hA0
  rw [Try.params6] at hA hval
  obtain ⟨v0, vs0, d0, ds0, p0, q0, hargs, rfl, rfl, h0, r0⟩ := trodAll_cons hA
  obtain ⟨v1, vs1, d1, ds1, p1, q1, rfl, rfl, rfl, h1, r1⟩ := trodAll_cons r0
  obtain ⟨rfl, rfl, rfl⟩ := trodAll_nil r1
  obtain rfl : args = #[v0, v1] := by cases args; simp_all
  obtain ⟨rfl, rfl⟩ := trodVars_none hV
  obtain ⟨s0, rfl, rfl, rfl, _⟩ := Go.ChangeMaps.open_string Try.underlying9 (hval 0 9 v0 rfl rfl) h0
  obtain ⟨l0, rfl⟩ : ∃ l : List UInt8, s0 = ⟨l.toArray⟩ := ⟨s0.data.toList, by cases s0; simp⟩
  obtain ⟨z1, rfl, rfl, rfl, wf1⟩ := open_int Try.underlying5 (hval 1 5 v1 rfl rfl) h1
  clear hA0
  refine (titleWhole_walk W l0 z1 (wf_u8 wf1)).mono fun e W' ⟨he, hb⟩ => ?_
  subst he
  exact ⟨_, rfl, law_post laidOut (by rw [Try.params6]; decide +kernel) rfl Try.underlying4 rfl rfl hW' hb⟩

set_option maxRecDepth 100000 in
theorem titleWhole_lifted (os : Os) (started : os.Started) (H : Type) (enc : TypeId × Value → H) :
    ReturnsInHanded {} Try.checked os 6 .any (Rows.titleWholeSpec.pre6 enc Try.prog Try.f6 Rows.titleWholeRow.domain false) (Rows.titleWholeSpec.post enc Try.prog Try.f6 false true false false) := by
  refine returnsInHanded_of_change (C := Try.checked) own started (by kernel_rfl) Try.func6
    (ChangeSpec.witness6 (enc := enc) (C := Try.checked) false ⟨#[], #[.string .empty, .int .u8 0], []⟩ 8 (by kernel_rfl) (by kernel_rfl) (by kernel_rfl) (by kernel_rfl)) ?_
  intro W base args ds gs before hval hW _ _
  exact titleWhole_contract H enc W base args ds gs before hval hW

theorem titleWhole_holds : Rows.TitleWholeSaid :=
  OpenClaim.holds_of_wide 6 Try.f6 rfl rfl rfl rfl rfl rfl rfl ⟨rfl, rfl, rfl, rfl, rfl⟩ rfl rfl rfl rfl rfl (by kernel_rfl) Try.func6 (by kernel_rfl)
    (of_decide_eq_true (by kernel_rfl)) (by unfold Func.isWrapper; first | (rw [if_pos (by decide +kernel)]; kernel_rfl) | (rw [if_neg (by decide +kernel)]; exact ⟨rfl, rfl⟩))
    (fun os started H enc _ => titleWhole_lifted os started H enc)

end Go.Proofs.Ytkgegjifnegknaa
