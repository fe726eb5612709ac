/-
  Arguments that are maps: their slots. By an AI agent.
-/
import Derived.Test.YtpgibmffgliibaaImA
namespace Go.Proofs.Ytpgibmffgliibaa
open Go.RowKit Go.ChangeShapes Go.WideShapes Go.ChangeAt
open Im (Sl)

def imk : Nat → List IntKind
  | 0 => []
  | n + 1 => .i64 :: .u32 :: .i64 :: imk n
theorem sls_of_ints : ∀ (n : Nat) (zs : List Int), zs.length = (imk n).length → (∀ (j : Nat) (k : IntKind) (z : Int), (imk n)[j]? = some k → zs[j]? = some z → (Lit.int k z).wf = true) →
    ∃ X : List Sl, X.length = n ∧ ((imk n).zip zs).map (fun p => Value.int p.1 p.2) = mcells X ∧ ∀ x ∈ X, x.s < 4294967296
  | 0, zs, hl, _ => ⟨[], rfl, by rw [show imk 0 = [] from rfl]; rfl, fun x hx => by cases hx⟩
  | n + 1, zs, hl, hw => by
    match zs, hl with
    | a :: b :: c :: zs, hl =>
      obtain ⟨X, h1, h2, h3⟩ := sls_of_ints n zs (by simpa [imk] using hl) (fun j k z hj hz => hw (j + 1 + 1 + 1) k z hj hz)
      have hb := wf_u32 (hw 1 .u32 b rfl rfl)
      obtain ⟨s, rfl⟩ := Int.eq_ofNat_of_zero_le hb.1
      refine ⟨⟨a, s, c⟩ :: X, by simp [h1], ?_, fun x hx => ?_⟩
      · rw [mcells_cons, ← h2]
        rfl
      · rcases List.mem_cons.1 hx with rfl | hx
        · have := hb.2
          show s < 4294967296
          omega
        · exact h3 x hx
theorem im_of_ints (zs : List Int) (hl : zs.length = (imk 40).length) (hw : ∀ (j : Nat) (k : IntKind) (z : Int), (imk 40)[j]? = some k → zs[j]? = some z → (Lit.int k z).wf = true) :
    ∃ X : List Sl, Im.Good X ∧ ((imk 40).zip zs).map (fun p => Value.int p.1 p.2) = mcells X := by
  obtain ⟨X, h1, h2, h3⟩ := sls_of_ints 40 zs hl hw
  exact ⟨X, ⟨h1, h3⟩, h2⟩
end Go.Proofs.Ytpgibmffgliibaa
