/-
  The plain arithmetic of the sum: steps of a word, linear over exclusive-or; the table of halves; sums of octets; the sealed block; bits turned over are found. No program. By an AI agent.
-/
import Derived.WalkKit
namespace Go.Proofs.YtieajlpkiheebaaDoor.Crc

def half (n : Nat) : Nat := [0, 274646895, 549293790, 820201905, 1098587580, 1361435347, 1640403810, 1905808397, 2197175160, 2460548119, 2722870694, 2987750089, 3280807620, 3553878443, 3811616794, 4084100981].getD n 0
def stp (x : Nat) : Nat := x / 16 ^^^ half (x &&& 15)
def upd (x : Nat) (c : UInt8) : Nat := stp (stp (x ^^^ c.toNat))
def run (x : Nat) (l : List UInt8) : Nat := l.foldl upd x
def sum (l : List UInt8) : Nat := 4294967295 ^^^ run 4294967295 l

theorem half_lt (k : Nat) : half k < 4294967296 := by
  by_cases h : k < 16
  · have : ∀ k : Fin 16, half k < 4294967296 := by decide
    exact this ⟨k, h⟩
  · unfold half; rw [List.getD_eq_getElem?_getD, List.getElem?_eq_none (by simpa using h)]; simp
theorem stp_lt (x : Nat) (h : x < 4294967296) : stp x < 4294967296 := Nat.xor_lt_two_pow (n := 32) (by omega) (half_lt _)
theorem upd_lt (x : Nat) (c : UInt8) (h : x < 4294967296) : upd x c < 4294967296 :=
  stp_lt _ (stp_lt _ (Nat.xor_lt_two_pow (n := 32) h (by have := c.toNat_lt; omega)))
theorem run_lt (l : List UInt8) : ∀ (x : Nat), x < 4294967296 → run x l < 4294967296 := by
  induction l with
  | nil => exact fun x h => h
  | cons c l ih => exact fun x h => ih _ (upd_lt x c h)
theorem sum_lt (l : List UInt8) : sum l < 4294967296 := Nat.xor_lt_two_pow (n := 32) (by omega) (run_lt l _ (by omega))
theorem run_snoc (x : Nat) (l : List UInt8) (j : Nat) (h : j < l.length) : run x (l.take (j + 1)) = upd (run x (l.take j)) l[j] := by
  unfold run
  rw [List.take_succ_eq_append_getElem h, List.foldl_append]; rfl
theorem run_app (x : Nat) (l m : List UInt8) : run x (l ++ m) = run (run x l) m := List.foldl_append
theorem flat_snoc (ls : List (List UInt8)) (k : Nat) (h : k < ls.length) : (ls.take (k + 1)).flatten = (ls.take k).flatten ++ ls[k] := by
  rw [List.take_succ_eq_append_getElem h, List.flatten_append]; simp only [List.flatten_cons, List.flatten_nil, List.append_nil]

/-! ### Steps of one bit -/
def bit (x : Nat) : Nat := if x % 2 = 1 then x / 2 ^^^ 2197175160 else x / 2
def steps (x : Nat) : Nat → Nat
  | 0 => x
  | n + 1 => bit (steps x n)

theorem bit_lt (x : Nat) (h : x < 4294967296) : bit x < 4294967296 := by
  unfold bit
  split
  · exact Nat.xor_lt_two_pow (n := 32) (by omega) (by omega)
  · omega
theorem steps_lt (x n : Nat) (h : x < 4294967296) : steps x n < 4294967296 := by
  induction n with
  | zero => exact h
  | succ n ih => exact bit_lt _ ih

theorem xor_mod_two (a b : Nat) : (a ^^^ b) % 2 = (a % 2 + b % 2) % 2 := by
  have h := Nat.testBit_xor a b 0
  simp only [Nat.testBit_zero] at h
  rcases Nat.mod_two_eq_zero_or_one a with ha | ha <;> rcases Nat.mod_two_eq_zero_or_one b with hb | hb <;>
    rcases Nat.mod_two_eq_zero_or_one (a ^^^ b) with hc | hc <;> simp [ha, hb, hc] at h ⊢
theorem xor_div_two (a b : Nat) : (a ^^^ b) / 2 = a / 2 ^^^ b / 2 := Nat.xor_div_two
theorem bit_xor (a b : Nat) : bit (a ^^^ b) = bit a ^^^ bit b := by
  unfold bit
  rw [xor_div_two, xor_mod_two]
  rcases Nat.mod_two_eq_zero_or_one a with ha | ha <;> rcases Nat.mod_two_eq_zero_or_one b with hb | hb <;> simp [ha, hb]
  · rw [Nat.xor_assoc]
  · rw [Nat.xor_assoc, Nat.xor_assoc, Nat.xor_comm (b / 2)]
  · rw [Nat.xor_assoc, ← Nat.xor_assoc 2197175160, Nat.xor_comm 2197175160, Nat.xor_assoc (b / 2), Nat.xor_self, Nat.xor_zero]
theorem steps_xor (a b n : Nat) : steps (a ^^^ b) n = steps a n ^^^ steps b n := by
  induction n with
  | zero => rfl
  | succ n ih => simp only [steps, ih, bit_xor]
theorem steps_add (x m n : Nat) : steps x (m + n) = steps (steps x m) n := by
  induction n with
  | zero => rfl
  | succ n ih => rw [← Nat.add_assoc]; simp only [steps, ih]
theorem bit_twice (x : Nat) : bit (2 * x) = x := by
  unfold bit
  rw [if_neg (by omega)]; omega
theorem steps_shift (x n : Nat) : steps (x * 2 ^ n) n = x := by
  induction n generalizing x with
  | zero => simp [steps]
  | succ n ih =>
    have h : x * 2 ^ (n + 1) = (2 * x) * 2 ^ n := by rw [Nat.pow_succ]; ac_rfl
    simp only [steps]
    rw [h, ih, bit_twice]
theorem steps_zero (n : Nat) : steps 0 n = 0 := by
  have := steps_shift 0 n
  simpa using this

theorem half_steps : ∀ k : Fin 16, half k = steps k 4 := by decide
theorem split_low (x n : Nat) : x = (x / 2 ^ n) * 2 ^ n ^^^ x % 2 ^ n := by
  have h := Nat.shiftLeft_add_eq_or_of_lt (Nat.mod_lt x (Nat.two_pow_pos n)) (x / 2 ^ n)
  have e : x = (x / 2 ^ n) <<< n + x % 2 ^ n := by rw [Nat.shiftLeft_eq]; have := Nat.div_add_mod x (2 ^ n); rw [Nat.mul_comm]; omega
  rw [h] at e
  apply Nat.eq_of_testBit_eq
  intro i
  rw [← Nat.shiftLeft_eq]
  have e' := congrArg (Nat.testBit · i) e
  simp only [Nat.testBit_or] at e'
  rw [e', Nat.testBit_xor]
  by_cases hi : i < n
  · simp [Nat.testBit_shiftLeft, hi, Nat.not_le.2 hi]
  · simp [Nat.testBit_mod_two_pow, hi]
theorem stp_steps (x : Nat) : stp x = steps x 4 := by
  unfold stp
  have h15 : x &&& 15 = x % 16 := by have := Nat.and_two_pow_sub_one_eq_mod x 4; simpa using this
  have hh : half (x &&& 15) = steps (x % 16) 4 := by rw [h15]; exact half_steps ⟨x % 16, Nat.mod_lt _ (by omega)⟩
  rw [hh]
  have e := split_low x 4
  have : steps x 4 = steps ((x / 2 ^ 4) * 2 ^ 4 ^^^ x % 2 ^ 4) 4 := by rw [← e]
  rw [this, steps_xor, steps_shift]
theorem upd_steps (x : Nat) (c : UInt8) : upd x c = steps (x ^^^ c.toNat) 8 := by
  unfold upd
  rw [stp_steps, stp_steps, ← steps_add]

/-- The document's sum. -/
def rrun (x : Nat) (l : List UInt8) : Nat := l.foldl (fun x c => steps (x ^^^ c.toNat) 8) x
theorem run_rrun (l : List UInt8) : ∀ x, run x l = rrun x l := by
  induction l with
  | nil => exact fun _ => rfl
  | cons c l ih => intro x; show run (upd x c) l = rrun (steps (x ^^^ c.toNat) 8) l; rw [upd_steps, ih]
theorem not_sub (x : Nat) (h : x < 4294967296) : 4294967295 - x = 4294967295 ^^^ x := by
  have h1 : BitVec.allOnes 32 ^^^ BitVec.ofNat 32 x = ~~~ BitVec.ofNat 32 x := by
    rw [BitVec.not_def]
  have h2 := congrArg BitVec.toNat h1
  rw [BitVec.toNat_not, BitVec.toNat_xor, BitVec.toNat_allOnes, BitVec.toNat_ofNat, Nat.mod_eq_of_lt (by simpa using h)] at h2
  simpa using h2.symm

/-- The number whose octets these are, the first one the least. -/
def le : List UInt8 → Nat
  | [] => 0
  | c :: l => c.toNat + 256 * le l
theorem le_lt (l : List UInt8) : le l < 2 ^ (8 * l.length) := by
  induction l with
  | nil => simp [le]
  | cons c l ih =>
    have := c.toNat_lt
    have e : 2 ^ (8 * (c :: l).length) = 256 * 2 ^ (8 * l.length) := by
      rw [List.length_cons, Nat.mul_add, Nat.pow_add, Nat.mul_comm]
    rw [e]; unfold le; omega
theorem add_xor (a b n : Nat) (h : a < 2 ^ n) : a + 2 ^ n * b = b * 2 ^ n ^^^ a := by
  have e := split_low (a + 2 ^ n * b) n
  rw [Nat.add_mul_mod_self_left, Nat.mod_eq_of_lt h, Nat.add_mul_div_left _ _ (Nat.two_pow_pos n), Nat.div_eq_of_lt h, Nat.zero_add] at e
  exact e
/-- All steps at once: the octets stand above the word. -/
theorem run_le (l : List UInt8) : ∀ x, run x l = steps (x ^^^ le l) (8 * l.length) := by
  induction l with
  | nil => intro x; simp [run, le, steps]
  | cons c l ih =>
    intro x
    show run (upd x c) l = _
    rw [ih, upd_steps]
    have e : le (c :: l) = le l * 2 ^ 8 ^^^ c.toNat := by
      have := add_xor c.toNat (le l) 8 (by have := c.toNat_lt; simpa using this)
      rw [← this]; rfl
    rw [e, show 8 * (c :: l).length = 8 + 8 * l.length by rw [List.length_cons]; omega, steps_add]
    congr 1
    rw [Nat.xor_comm (le l * 2 ^ 8), ← Nat.xor_assoc, steps_xor (x ^^^ c.toNat) (le l * 2 ^ 8), steps_shift]

/-- A step loses nothing of a word of 32 bits. -/
theorem bit_zero (x : Nat) (h : x < 4294967296) (h0 : bit x = 0) : x = 0 := by
  unfold bit at h0
  split at h0
  · rename_i ho
    have h1 : x / 2 = 2197175160 := by
      have := congrArg (· ^^^ 2197175160) h0
      simpa [Nat.xor_assoc] using this
    omega
  · omega
theorem steps_ne (x n : Nat) (h : x < 4294967296) (h0 : steps x n = 0) : x = 0 := by
  induction n with
  | zero => exact h0
  | succ n ih => exact ih (bit_zero _ (steps_lt x n h) h0)
theorem xor_eq_zero (a b : Nat) (h : a ^^^ b = 0) : a = b := by
  have := congrArg (· ^^^ b) h
  simpa [Nat.xor_assoc] using this
theorem steps_inj (x y n : Nat) (hx : x < 4294967296) (hy : y < 4294967296) (h : steps x n = steps y n) : x = y := by
  apply xor_eq_zero
  apply steps_ne _ n (Nat.xor_lt_two_pow (n := 32) hx hy)
  rw [steps_xor, h, Nat.xor_self]

/-! ### Three times as many -/
def xor3 : List UInt8 → List UInt8 → List UInt8 → List UInt8
  | a :: l, b :: m, c :: n => (a ^^^ b ^^^ c) :: xor3 l m n
  | _, _, _ => []
theorem run_xor3 : ∀ (l m n : List UInt8) (x y z : Nat), l.length = m.length → l.length = n.length → run (x ^^^ y ^^^ z) (xor3 l m n) = run x l ^^^ run y m ^^^ run z n
  | [], [], [], _, _, _, _, _ => rfl
  | a :: l, b :: m, c :: n, x, y, z, h1, h2 => by
    have e : upd (x ^^^ y ^^^ z) (a ^^^ b ^^^ c) = upd x a ^^^ upd y b ^^^ upd z c := by
      rw [upd_steps, upd_steps, upd_steps, upd_steps, UInt8.toNat_xor, UInt8.toNat_xor, ← steps_xor, ← steps_xor]
      congr 1
      ac_rfl
    show run (upd (x ^^^ y ^^^ z) (a ^^^ b ^^^ c)) (xor3 l m n) = run (upd x a) l ^^^ run (upd y b) m ^^^ run (upd z c) n
    rw [e]
    exact run_xor3 l m n _ _ _ (by simpa using h1) (by simpa using h2)
  | [], [], _ :: _, _, _, _, _, h => by simp at h
  | [], _ :: _, _, _, _, _, h, _ => by simp at h
  | _ :: _, [], _, _, _, _, h, _ => by simp at h
  | _ :: _, _ :: _, [], _, _, _, _, h => by simp at h
theorem sum_xor3 (l m n : List UInt8) (h1 : l.length = m.length) (h2 : l.length = n.length) : sum (xor3 l m n) = sum l ^^^ sum m ^^^ sum n := by
  unfold sum
  have := run_xor3 l m n 4294967295 4294967295 4294967295 h1 h2
  rw [show (4294967295 ^^^ 4294967295 ^^^ 4294967295 : Nat) = 4294967295 by decide] at this
  rw [this]
  apply Nat.eq_of_testBit_eq
  intro i
  simp only [Nat.testBit_xor]
  generalize Nat.testBit 4294967295 i = p
  generalize Nat.testBit (run 4294967295 l) i = a
  generalize Nat.testBit (run 4294967295 m) i = b
  generalize Nat.testBit (run 4294967295 n) i = c
  cases p <;> cases a <;> cases b <;> cases c <;> rfl

theorem xor3_snoc : ∀ (l m n : List UInt8) (k : Nat), k < l.length → k < m.length → k < n.length → xor3 (l.take (k + 1)) (m.take (k + 1)) (n.take (k + 1)) = xor3 (l.take k) (m.take k) (n.take k) ++ [l.getD k 0 ^^^ m.getD k 0 ^^^ n.getD k 0]
  | a :: l, b :: m, c :: n, 0, _, _, _ => by simp [xor3]
  | a :: l, b :: m, c :: n, k + 1, h1, h2, h3 => by
    have := xor3_snoc l m n k (by simpa using h1) (by simpa using h2) (by simpa using h3)
    simp only [List.take_succ_cons, xor3, List.cons_append, List.getD_cons_succ] at this ⊢
    rw [this]
  | [], _, _, _, h, _, _ => by simp at h
  | _ :: _, [], _, _, _, h, _ => by simp at h
  | _ :: _, _ :: _, [], _, _, _, h => by simp at h
theorem length_xor3 : ∀ (l m n : List UInt8), l.length = m.length → l.length = n.length → (xor3 l m n).length = l.length
  | [], [], [], _, _ => rfl
  | _ :: l, _ :: m, _ :: n, h1, h2 => by simp only [xor3, List.length_cons]; rw [length_xor3 l m n (by simpa using h1) (by simpa using h2)]
  | [], [], _ :: _, _, h => by simp at h
  | [], _ :: _, _, h, _ => by simp at h
  | _ :: _, [], _, h, _ => by simp at h
  | _ :: _, _ :: _, [], _, h => by simp at h

/-! ### Sealed blocks -/
/-- The octets of a word, the least one first. -/
def octs (n : Nat) : List UInt8 := [UInt8.ofNat n, UInt8.ofNat (n / 256), UInt8.ofNat (n / 65536), UInt8.ofNat (n / 16777216)]
def pad (n : Nat) (l : List UInt8) : List UInt8 := l ++ List.replicate (n - l.length) 0
def sealed (l : List UInt8) : List UInt8 := pad 124 l ++ octs (sum (pad 124 l))
def held (l : List UInt8) : Bool := l.length == 128 && l.drop 124 == octs (sum (l.take 124))

/-- A block while its sum is laid: the first k octets of it are there. -/
def arr (l : List UInt8) (S k : Nat) : List UInt8 := pad 124 l ++ ((octs S).take k ++ List.replicate (4 - k) 0)
theorem pad_take (l : List UInt8) (h : l.length ≤ 124) : (pad 128 l).take 124 = pad 124 l := by
  unfold pad
  rw [List.take_append, List.take_of_length_le h, List.take_replicate]
  congr 2
  omega
theorem arr_zero (l : List UInt8) (S : Nat) (h : l.length ≤ 124) : arr l S 0 = pad 128 l := by
  unfold arr pad
  rw [List.take_zero, List.nil_append, List.append_assoc, List.replicate_append_replicate]
  congr 2
  omega
theorem arr_four (l : List UInt8) : arr l (sum (pad 124 l)) 4 = sealed l := by
  unfold arr sealed
  simp [octs]
theorem arr_succ (l : List UInt8) (S k : Nat) (h : l.length ≤ 124) (hk : k < 4) (x : UInt8) (hx : x.toNat = S / 256 ^ k % 256) : (arr l S k).set (124 + k) x = arr l S (k + 1) := by
  have e : (pad 124 l).length = 124 := by unfold pad; rw [List.length_append, List.length_replicate]; omega
  have ho : x = (octs S).getD k 0 := by
    apply UInt8.toNat_inj.1
    rw [hx]
    match k, hk with
    | 0, _ => simp [octs]
    | 1, _ => simp [octs]
    | 2, _ => simp [octs]
    | 3, _ => simp [octs]
  unfold arr
  rw [List.set_append_right _ _ (by omega), e, Nat.add_sub_cancel_left, ho]
  congr 1
  match k, hk with
  | 0, _ => rfl
  | 1, _ => rfl
  | 2, _ => rfl
  | 3, _ => rfl
theorem length_arr (l : List UInt8) (S k : Nat) (h : l.length ≤ 124) (hk : k ≤ 4) : (arr l S k).length = 128 := by
  unfold arr pad
  simp [octs]
  omega

theorem le_octs (n : Nat) (h : n < 4294967296) : le (octs n) = n := by
  simp only [octs, le, UInt8.toNat_ofNat']
  omega
theorem octs_le (l : List UInt8) (h : l.length = 4) : octs (le l) = l := by
  match l, h with
  | [a, b, c, d], _ =>
    have ha := a.toNat_lt; have hb := b.toNat_lt; have hc := c.toNat_lt; have hd := d.toNat_lt
    simp only [octs, le]
    have e : ∀ (x : UInt8) (n : Nat), n % 256 = x.toNat → UInt8.ofNat n = x := fun x n h => UInt8.toNat_inj.1 (by rw [UInt8.toNat_ofNat']; exact h)
    rw [e a _ (by omega), e b _ (by omega), e c _ (by omega), e d _ (by omega)]
theorem length_pad (n : Nat) (l : List UInt8) (h : l.length ≤ n) : (pad n l).length = n := by
  unfold pad; rw [List.length_append, List.length_replicate]; omega
theorem length_sealed (l : List UInt8) (h : l.length ≤ 124) : (sealed l).length = 128 := by
  unfold sealed; rw [List.length_append, length_pad 124 l h]; rfl
theorem held_sealed (l : List UInt8) (h : l.length ≤ 124) : held (sealed l) = true := by
  unfold held
  rw [length_sealed l h]
  have e : (pad 124 l).length = 124 := length_pad 124 l h
  have h1 : (sealed l).take 124 = pad 124 l := by unfold sealed; exact List.take_left' e
  have h2 : (sealed l).drop 124 = octs (sum (pad 124 l)) := by
    unfold sealed
    exact List.drop_left' e
  rw [h1, h2]; simp

theorem pad_self (n : Nat) (l : List UInt8) (h : l.length = n) : pad n l = l := by
  unfold pad; rw [h, Nat.sub_self]; simp
theorem sealed_eq (l : List UInt8) (h : l.length = 128) : (sealed (l.take 124) == l) = held l := by
  have e : pad 124 (l.take 124) = l.take 124 := pad_self _ _ (by rw [List.length_take]; omega)
  have hl : l.take 124 ++ l.drop 124 = l := List.take_append_drop 124 l
  unfold sealed held
  rw [e, h, Bool.eq_iff_iff]
  simp only [beq_self_eq_true, Bool.true_and, beq_iff_eq]
  constructor
  · intro hh
    have := hl.trans hh.symm
    exact List.append_cancel_left this
  · intro hh
    rw [← hh, hl]

/-- As a walk finds it: octet by octet. -/
def HTo (l : List UInt8) (S k : Nat) : Prop := ∀ j, j < k → (l.getD (124 + j) 0).toNat = S / 256 ^ j % 256
theorem octs_getD (S j : Nat) (h : j < 4) : ((octs S).getD j 0).toNat = S / 256 ^ j % 256 := by
  match j, h with
  | 0, _ => simp [octs]
  | 1, _ => simp [octs]
  | 2, _ => simp [octs]
  | 3, _ => simp [octs]
theorem held_iff (l : List UInt8) (hl : l.length = 128) : held l = true ↔ HTo l (sum (l.take 124)) 4 := by
  have h4 : (l.drop 124).length = 4 := by rw [List.length_drop]; omega
  generalize hS : sum (l.take 124) = S
  have hg : ∀ j, (l.drop 124).getD j 0 = l.getD (124 + j) 0 := fun j => by simp [List.getD_eq_getElem?_getD]
  constructor
  · intro h j hj
    unfold held at h
    rw [hl, hS] at h
    have hd : l.drop 124 = octs S := by simpa using h
    rw [← hg, hd]
    exact octs_getD S j hj
  · intro h
    have hd : l.drop 124 = octs S := by
      apply List.ext_getElem? fun j => ?_
      by_cases hj : j < 4
      · have e : (l.drop 124).getD j 0 = (octs S).getD j 0 := by
          apply UInt8.toNat_inj.1
          rw [hg, octs_getD S j hj]
          exact h j hj
        have ho : j < (octs S).length := hj
        rw [List.getD_eq_getElem?_getD, List.getD_eq_getElem?_getD, List.getElem?_eq_getElem (by omega), List.getElem?_eq_getElem ho] at e
        rw [List.getElem?_eq_getElem (by omega), List.getElem?_eq_getElem ho]
        simpa using e
      · have ho : (octs S).length = 4 := rfl
        rw [List.getElem?_eq_none (by omega), List.getElem?_eq_none (by omega)]
    unfold held
    rw [hl, hS, hd]
    simp
theorem HTo.succ {l : List UInt8} {S k : Nat} (h : HTo l S k) (e : (l.getD (124 + k) 0).toNat = S / 256 ^ k % 256) : HTo l S (k + 1) := by
  intro j hj
  by_cases hk : j = k
  · rw [hk]; exact e
  · exact h j (by omega)
theorem HTo.no {l : List UInt8} {S k : Nat} (hk : k < 4) (e : (l.getD (124 + k) 0).toNat ≠ S / 256 ^ k % 256) : ¬ HTo l S 4 := fun h => e (h k hk)

/-- A block of 128 octets is sealed just if its whole run is what it is. -/
theorem held_run (l : List UInt8) (h : l.length = 128) : held l = true ↔ run 4294967295 l = steps 4294967295 32 := by
  have hl : l = l.take 124 ++ l.drop 124 := (List.take_append_drop 124 l).symm
  have h4 : (l.drop 124).length = 4 := by rw [List.length_drop]; omega
  have hr := run_lt (l.take 124) 4294967295 (by omega)
  have hle : le (l.drop 124) < 4294967296 := by have := le_lt (l.drop 124); rw [h4] at this; simpa using this
  have e : run 4294967295 l = steps (run 4294967295 (l.take 124) ^^^ le (l.drop 124)) 32 := by
    conv => lhs; rw [hl]
    rw [run_app, run_le, h4]
  rw [e]
  have hx : run 4294967295 (l.take 124) ^^^ le (l.drop 124) < 4294967296 := Nat.xor_lt_two_pow (n := 32) hr hle
  constructor
  · intro hh
    unfold held at hh
    rw [h] at hh
    have hd : l.drop 124 = octs (sum (l.take 124)) := by simpa using hh
    rw [hd, le_octs _ (sum_lt _)]
    congr 1
    unfold sum
    rw [Nat.xor_comm 4294967295, ← Nat.xor_assoc, Nat.xor_self, Nat.zero_xor]
  · intro hh
    have := steps_inj _ _ 32 hx (by omega) hh
    have hs : le (l.drop 124) = sum (l.take 124) := by
      unfold sum
      generalize run 4294967295 (l.take 124) = R at *
      rw [← this, Nat.xor_comm R, Nat.xor_assoc, Nat.xor_self, Nat.xor_zero]
    unfold held
    rw [h, ← hs, octs_le _ h4]
    simp

def xor2 : List UInt8 → List UInt8 → List UInt8
  | a :: l, b :: m => (a ^^^ b) :: xor2 l m
  | _, _ => []
theorem run_xor2 : ∀ (l m : List UInt8) (x y : Nat), l.length = m.length → run (x ^^^ y) (xor2 l m) = run x l ^^^ run y m
  | [], [], _, _, _ => rfl
  | a :: l, b :: m, x, y, h => by
    have e : upd (x ^^^ y) (a ^^^ b) = upd x a ^^^ upd y b := by
      rw [upd_steps, upd_steps, upd_steps, UInt8.toNat_xor, ← steps_xor]
      congr 1
      ac_rfl
    show run (upd (x ^^^ y) (a ^^^ b)) (xor2 l m) = run (upd x a) l ^^^ run (upd y b) m
    rw [e]
    exact run_xor2 l m _ _ (by simpa using h)
  | [], _ :: _, _, _, h => by simp at h
  | _ :: _, [], _, _, h => by simp at h
theorem length_xor2 : ∀ (l m : List UInt8), l.length = m.length → (xor2 l m).length = l.length
  | [], [], _ => rfl
  | _ :: l, _ :: m, h => by simp only [xor2, List.length_cons]; rw [length_xor2 l m (by simpa using h)]
  | [], _ :: _, h => by simp at h
  | _ :: _, [], h => by simp at h

theorem xor2_zip : ∀ (l m : List UInt8), xor2 l m = List.zipWith (· ^^^ ·) l m
  | [], [] => rfl
  | [], _ :: _ => rfl
  | _ :: _, [] => rfl
  | a :: l, b :: m => by simp only [xor2, List.zipWith_cons_cons, xor2_zip l m]
/-- The first n octets of a number, the least one first. -/
def bytesN (x : Nat) : Nat → List UInt8
  | 0 => []
  | n + 1 => UInt8.ofNat x :: bytesN (x / 256) n
theorem length_bytesN (x n : Nat) : (bytesN x n).length = n := by
  induction n generalizing x with
  | zero => rfl
  | succ n ih => simp only [bytesN, List.length_cons, ih]
theorem le_bytesN (x n : Nat) : le (bytesN x n) = x % 256 ^ n := by
  induction n generalizing x with
  | zero => simp [bytesN, le, Nat.mod_one]
  | succ n ih =>
    simp only [bytesN, le, ih, UInt8.toNat_ofNat']
    rw [show (256 : Nat) ^ (n + 1) = 256 * 256 ^ n by rw [Nat.pow_succ, Nat.mul_comm], Nat.mod_mul]
theorem bytesN_snoc (x n : Nat) : bytesN x (n + 1) = bytesN x n ++ [UInt8.ofNat (x / 256 ^ n)] := by
  induction n generalizing x with
  | zero => simp [bytesN]
  | succ n ih =>
    rw [bytesN, ih, bytesN, Nat.div_div_eq_div_mul, Nat.pow_succ, Nat.mul_comm 256]
    rfl
theorem le_append (l m : List UInt8) : le (l ++ m) = le l + 256 ^ l.length * le m := by
  induction l with
  | nil => simp [le]
  | cons c l ih =>
    simp only [List.cons_append, le, ih, List.length_cons]
    rw [Nat.pow_succ, Nat.mul_add, Nat.add_assoc, ← Nat.mul_assoc, Nat.mul_comm 256 (256 ^ l.length)]
theorem le_zeros (n : Nat) : le (List.replicate n 0) = 0 := by
  induction n with
  | zero => rfl
  | succ n ih => simp [List.replicate_succ, le, ih]
/-- Octets that are nought but for i of them from place q on: those of a number. -/
def dl (x q i : Nat) : List UInt8 := List.replicate q 0 ++ (bytesN x i ++ List.replicate (128 - q - i) 0)
theorem length_dl (x q i : Nat) (h : q + i ≤ 128) : (dl x q i).length = 128 := by
  unfold dl
  rw [List.length_append, List.length_append, List.length_replicate, List.length_replicate, length_bytesN]; omega
theorem le_dl (x q i : Nat) : le (dl x q i) = x % 256 ^ i * 256 ^ q := by
  unfold dl
  rw [le_append, le_append, le_zeros, le_zeros, le_bytesN, List.length_replicate, Nat.mul_zero, Nat.add_zero, Nat.zero_add, Nat.mul_comm]
theorem dl_zero (x q : Nat) (h : q ≤ 128) : dl x q 0 = List.replicate 128 0 := by
  unfold dl bytesN
  rw [List.nil_append, List.replicate_append_replicate]; congr 1; omega
theorem dl_succ (x q i : Nat) (h : q + i < 128) : dl x q (i + 1) = (dl x q i).set (q + i) (UInt8.ofNat (x / 256 ^ i)) := by
  unfold dl
  rw [List.set_append_right _ _ (by rw [List.length_replicate]; omega), List.length_replicate, Nat.add_sub_cancel_left,
    List.set_append_right _ _ (by rw [length_bytesN]; omega), length_bytesN, Nat.sub_self, bytesN_snoc, List.append_assoc]
  congr 2
  rw [show 128 - q - i = (128 - q - (i + 1)) + 1 by omega, List.replicate_succ, List.set_cons_zero]
  rfl
theorem dl_get (x q i : Nat) (h : q + i < 128) : (dl x q i)[q + i]? = some 0 := by
  unfold dl
  rw [List.getElem?_append_right (by rw [List.length_replicate]; omega), List.length_replicate, Nat.add_sub_cancel_left,
    List.getElem?_append_right (by rw [length_bytesN]; omega), length_bytesN, Nat.sub_self, List.getElem?_replicate, if_pos (by omega)]
theorem xor2_zero (l : List UInt8) (h : l.length = 128) : xor2 l (List.replicate 128 0) = l := by
  have : ∀ (l : List UInt8), xor2 l (List.replicate l.length 0) = l := by
    intro l
    induction l with
    | nil => rfl
    | cons c l ih => simp only [List.length_cons, List.replicate_succ, xor2, ih, UInt8.xor_zero]
  rw [← h]; exact this l
/-- One octet more is turned. -/
theorem xor2_dl (l : List UInt8) (x q i : Nat) (hl : l.length = 128) (h : q + i < 128) (c : UInt8) (hc : c = (xor2 l (dl x q i)).getD (q + i) 0 ^^^ UInt8.ofNat (x / 256 ^ i)) :
    (xor2 l (dl x q i)).set (q + i) c = xor2 l (dl x q (i + 1)) := by
  rw [dl_succ x q i h, xor2_zip, xor2_zip]
  apply List.ext_getElem? fun t => ?_
  rw [List.getElem?_set, List.getElem?_zipWith, List.getElem?_zipWith, List.getElem?_set, List.length_zipWith, hl, length_dl x q i (by omega)]
  by_cases ht : q + i = t
  · subst ht
    rw [if_pos rfl, if_pos rfl, if_pos (by omega), if_pos (by omega)]
    have hg : l[q + i]? = some l[q + i] := List.getElem?_eq_getElem (by omega)
    rw [xor2_zip, List.getD_eq_getElem?_getD, List.getElem?_zipWith, dl_get x q i h, hg] at hc
    rw [hg, hc]
    simp
  · rw [if_neg ht, if_neg ht]

theorem le_turn (turn k j wide : Nat) (ht : turn < 4294967296) (hk : k < 993) (hj : j ≤ 5) (hw : turn * 2 ^ (k % 8) = wide) (hend : ¬ (j < 5 ∧ k / 8 + j < 128)) (hq : k / 8 + j ≤ 128) : le (dl wide (k / 8) j) = turn * 2 ^ k := by
  have e : turn * 2 ^ k = wide * 256 ^ (k / 8) := by
    rw [← hw, show (256 : Nat) = 2 ^ 8 from rfl, ← Nat.pow_mul, Nat.mul_assoc, ← Nat.pow_add]
    congr 2
    omega
  rw [le_dl, e]
  congr 1
  by_cases h5 : j = 5
  · subst h5
    apply Nat.mod_eq_of_lt
    have h1 : 2 ^ (k % 8) ≤ 2 ^ 7 := Nat.pow_le_pow_right (by omega) (by omega)
    have h2 : turn * 2 ^ (k % 8) ≤ turn * 2 ^ 7 := Nat.mul_le_mul_left _ h1
    omega
  · have hk' : k = 992 := by omega
    subst hk'
    have hj' : j = 4 := by omega
    subst hj'
    apply Nat.mod_eq_of_lt
    rw [← hw]
    omega

/-- The run of what stands beside nought: octets whose number is t, moved k bits: not nought. -/
theorem run_burst (d : List UInt8) (t k : Nat) (ht : t < 4294967296) (h0 : t ≠ 0) (hk : k ≤ 8 * d.length) (hd : le d = t * 2 ^ k) : run 0 d ≠ 0 := by
  rw [run_le, Nat.zero_xor, hd, show 8 * d.length = k + (8 * d.length - k) by omega, steps_add, steps_shift]
  exact fun h => h0 (steps_ne _ _ ht h)
theorem sum_burst (l d : List UInt8) (t k : Nat) (hl : l.length = d.length) (ht : t < 4294967296) (h0 : t ≠ 0) (hk : k ≤ 8 * d.length) (hd : le d = t * 2 ^ k) : sum (xor2 l d) ≠ sum l := by
  intro h
  unfold sum at h
  have h' : run 4294967295 (xor2 l d) = run 4294967295 l := by
    have := congrArg (4294967295 ^^^ ·) h
    simpa [← Nat.xor_assoc] using this
  have e := run_xor2 l d 4294967295 0 hl
  rw [Nat.xor_zero, h'] at e
  have : run 0 d = 0 := by
    have := congrArg (run 4294967295 l ^^^ ·) e
    simpa [← Nat.xor_assoc] using this.symm
  exact run_burst d t k ht h0 hk hd this
theorem held_burst (l d : List UInt8) (t k : Nat) (hl : l.length = 128) (hdl : d.length = 128) (hh : held l = true) (ht : t < 4294967296) (h0 : t ≠ 0) (hk : k ≤ 1024) (hd : le d = t * 2 ^ k) : held (xor2 l d) = false := by
  rw [Bool.eq_false_iff]
  intro h
  rw [held_run _ (by rw [length_xor2 _ _ (by omega)]; exact hl)] at h
  rw [held_run _ hl] at hh
  have e := run_xor2 l d 4294967295 0 (by omega)
  rw [Nat.xor_zero, h, hh] at e
  have : run 0 d = 0 := by
    have := congrArg (steps 4294967295 32 ^^^ ·) e
    simpa [← Nat.xor_assoc] using this.symm
  exact run_burst d t k ht h0 (by omega) hd this
end Go.Proofs.YtieajlpkiheebaaDoor.Crc
