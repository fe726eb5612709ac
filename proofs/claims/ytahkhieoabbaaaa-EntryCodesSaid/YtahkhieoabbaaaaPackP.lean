/-
  The plain side of records of numbers: big-endian octets of a number, records, numbers out of octets. No program. By an AI agent.
-/
import Derived.WalkKit
namespace Go.Proofs.Ytahkhieoabbaaaa.Pk

/-- The last n octets of a number, the greatest one first. -/
def be (v : Nat) : Nat → List UInt8
  | 0 => []
  | n + 1 => UInt8.ofNat (v / 256 ^ n) :: be v n
theorem length_be (v n : Nat) : (be v n).length = n := by
  induction n with
  | zero => rfl
  | succ n ih => simp only [be, List.length_cons, ih]
/-- The number whose octets these are, the greatest one first. -/
def val (l : List UInt8) : Nat := l.foldl (fun v c => v * 256 + c.toNat) 0
def valFrom (v : Nat) (l : List UInt8) : Nat := l.foldl (fun v c => v * 256 + c.toNat) v
theorem valFrom_eq (l : List UInt8) : ∀ v, valFrom v l = v * 256 ^ l.length + val l := by
  induction l with
  | nil => intro v; simp [valFrom, val]
  | cons c l ih =>
    intro v
    show valFrom (v * 256 + c.toNat) l = v * 256 ^ (l.length + 1) + valFrom (0 * 256 + c.toNat) l
    rw [ih, ih (0 * 256 + c.toNat), Nat.pow_succ, Nat.zero_mul, Nat.zero_add, Nat.add_mul, Nat.mul_assoc, Nat.mul_comm 256, Nat.add_assoc]
theorem val_cons (c : UInt8) (l : List UInt8) : val (c :: l) = c.toNat * 256 ^ l.length + val l := by
  have := valFrom_eq l c.toNat
  show valFrom (0 * 256 + c.toNat) l = _
  rw [Nat.zero_mul, Nat.zero_add, this]
theorem val_lt (l : List UInt8) : val l < 256 ^ l.length := by
  induction l with
  | nil => simp [val]
  | cons c l ih =>
    rw [val_cons, List.length_cons, Nat.pow_succ, Nat.mul_comm (256 ^ l.length) 256]
    have hc := c.toNat_lt
    have : c.toNat * 256 ^ l.length ≤ 255 * 256 ^ l.length := Nat.mul_le_mul_right _ (by omega)
    omega
theorem val_snoc (l : List UInt8) (c : UInt8) : val (l ++ [c]) = val l * 256 + c.toNat := by
  unfold val; rw [List.foldl_append]; rfl
theorem val_be (v n : Nat) : val (be v n) = v % 256 ^ n := by
  induction n with
  | zero => simp [be, val, Nat.mod_one]
  | succ n ih =>
    rw [be, val_cons, length_be, ih, UInt8.toNat_ofNat', show (256 : Nat) ^ (n + 1) = 256 ^ n * 256 from Nat.pow_succ _ _, Nat.mod_mul, Nat.add_comm, Nat.mul_comm]
theorem be_congr (a b n : Nat) : a % 256 ^ n = b % 256 ^ n → be a n = be b n := by
  induction n with
  | zero => intro _; rfl
  | succ n ihn =>
    intro h
    rw [show (256 : Nat) ^ (n + 1) = 256 ^ n * 256 from Nat.pow_succ _ _] at h
    have hn : a % 256 ^ n = b % 256 ^ n := by
      have h' := congrArg (· % 256 ^ n) h
      rwa [Nat.mod_mul_right_mod, Nat.mod_mul_right_mod] at h'
    rw [be, be, ihn hn]
    congr 1
    apply UInt8.toNat_inj.1
    rw [UInt8.toNat_ofNat', UInt8.toNat_ofNat']
    have h2 := congrArg (· / 256 ^ n) h
    rwa [Nat.mod_mul_right_div_self, Nat.mod_mul_right_div_self] at h2
theorem be_val (l : List UInt8) : be (val l) l.length = l := by
  induction l with
  | nil => rfl
  | cons c l ih =>
    have hlt := val_lt l
    have hp : 0 < 256 ^ l.length := Nat.pow_pos (by omega)
    rw [List.length_cons, be, val_cons]
    congr 1
    · apply UInt8.toNat_inj.1
      rw [UInt8.toNat_ofNat', Nat.add_comm, Nat.add_mul_div_right _ _ hp, Nat.div_eq_of_lt hlt, Nat.zero_add]
      have := c.toNat_lt
      omega
    · refine Eq.trans (be_congr _ (val l) _ ?_) ih
      rw [Nat.mul_comm, Nat.mul_add_mod]

theorem be_get (v n i : Nat) (h : i < n) : (be v n)[i]? = some (UInt8.ofNat (v / 256 ^ (n - 1 - i))) := by
  induction n generalizing i with
  | zero => omega
  | succ n ih =>
    cases i with
    | zero => simp [be]
    | succ i =>
      rw [be, List.getElem?_cons_succ, ih i (by omega)]
      congr 4
      omega
theorem be_take (v n i : Nat) (h : i < n) : (be v n).take (i + 1) = (be v n).take i ++ [UInt8.ofNat (v / 256 ^ (n - 1 - i))] := by
  rw [List.take_add_one, be_get v n i h]; rfl

/-- One octet more, as a walk spells it. -/
theorem or_byte (V ch : Nat) (hV : V < 72057594037927936) (hc : ch < 256) : bits .or .u64 ((V : Int) * 256) (ch : Int) = ((V * 256 + ch : Nat) : Int) := by
  have h := u64_or_nat (V * 256) ch (by omega) (by omega)
  have e : V * 256 ||| ch = V * 256 + ch := by
    have := Nat.shiftLeft_add_eq_or_of_lt (i := 8) (b := ch) (by simpa using hc) V
    rw [Nat.shiftLeft_eq] at this
    exact this.symm
  rw [e] at h
  rw [← h]
  rfl
theorem val_step (l : List UInt8) (j : Nat) (h : j < l.length) : val (l.take (j + 1)) = val (l.take j) * 256 + (l.getD j 0).toNat := by
  rw [List.take_succ_eq_append_getElem h, val_snoc]
  simp [List.getD, h]
theorem val_small (l : List UInt8) (h : l.length ≤ 7) : val l < 72057594037927936 := by
  have h1 := val_lt l
  have h2 : 256 ^ l.length ≤ 256 ^ 7 := Nat.pow_le_pow_right (by omega) h
  omega

/-- A number of so many octets. -/
def isW (w : Int) : Bool := decide (1 ≤ w ∧ w ≤ 8)
/-- What is wrong with a number: 0 nothing, 1 its width, 19 it is too great. -/
def chk (x : Int × Nat) : Nat := if isW x.1 then (if x.2 < 256 ^ x.1.toNat then 0 else 19) else 1
/-- The first thing that is wrong. -/
def perr : List (Int × Nat) → Nat
  | [] => 0
  | x :: l => if chk x = 0 then perr l else chk x
def rec1 (x : Int × Nat) : List UInt8 := be x.2 x.1.toNat
def recs (l : List (Int × Nat)) : List UInt8 := l.flatMap rec1
def packed (l : List (Int × Nat)) : List UInt8 := if perr l = 0 then recs l else []
theorem chk_zero {x : Int × Nat} (h : chk x = 0) : 1 ≤ x.1 ∧ x.1 ≤ 8 ∧ x.2 < 256 ^ x.1.toNat := by
  unfold chk isW at h
  split at h
  · rename_i h1
    have := of_decide_eq_true h1
    split at h
    · exact ⟨this.1, this.2, by assumption⟩
    · simp at h
  · simp at h
theorem perr_zero {l : List (Int × Nat)} (h : perr l = 0) : ∀ x ∈ l, chk x = 0 := by
  induction l with
  | nil => simp
  | cons y l ih =>
    unfold perr at h
    split at h
    · rename_i hy
      intro x hx
      rcases List.mem_cons.1 hx with rfl | hx
      · exact hy
      · exact ih h x hx
    · rename_i hy; exact absurd h hy
theorem perr_of {l : List (Int × Nat)} (h : ∀ x ∈ l, chk x = 0) : perr l = 0 := by
  induction l with
  | nil => rfl
  | cons y l ih =>
    unfold perr
    rw [if_pos (h y List.mem_cons_self)]
    exact ih fun x hx => h x (List.mem_cons_of_mem _ hx)
/-- The first that is wrong, at place k. -/
theorem perr_at : ∀ (l : List (Int × Nat)) (k : Nat) (x : Int × Nat), (∀ y ∈ l.take k, chk y = 0) → l[k]? = some x → chk x ≠ 0 → perr l = chk x
  | [], k, x, _, h, _ => by simp at h
  | y :: l, 0, x, _, h, hx => by
    simp only [List.getElem?_cons_zero, Option.some.injEq] at h
    subst h
    unfold perr
    rw [if_neg hx]
  | y :: l, k + 1, x, h1, h, hx => by
    unfold perr
    rw [if_pos (h1 y (by simp))]
    exact perr_at l k x (fun z hz => h1 z (by simp [hz])) (by simpa using h) hx
theorem recs_len_le (l : List (Int × Nat)) (h : ∀ x ∈ l, chk x = 0) : (recs l).length ≤ 8 * l.length := by
  induction l with
  | nil => simp [recs]
  | cons x l ih =>
    have h1 := chk_zero (h x List.mem_cons_self)
    have h2 := ih fun y hy => h y (List.mem_cons_of_mem _ hy)
    unfold recs at h2 ⊢
    rw [List.flatMap_cons, List.length_append, List.length_cons]
    unfold rec1 at *
    rw [length_be]
    omega
theorem recs_len (l : List (Int × Nat)) : (recs l).length = (l.map fun x => x.1.toNat).sum := by
  induction l with
  | nil => rfl
  | cons x l ih =>
    unfold recs at ih ⊢
    rw [List.flatMap_cons, List.length_append, ih, List.map_cons, List.sum_cons]
    unfold rec1
    rw [length_be]
theorem recs_snoc (l : List (Int × Nat)) (k : Nat) (h : k < l.length) : recs (l.take (k + 1)) = recs (l.take k) ++ rec1 l[k] := by
  unfold recs
  rw [List.take_succ_eq_append_getElem h, List.flatMap_append]
  simp

theorem pow_bits (n : Nat) : (2 : Int) ^ (8 * n) = ((256 ^ n : Nat) : Int) := by
  rw [show (256 : Nat) = 2 ^ 8 from rfl, ← Nat.pow_mul]
  exact (Int.natCast_pow 2 (8 * n)).symm
theorem shr_byte (v n : Nat) : (v : Int) / 2 ^ (8 * n) % 256 = ((UInt8.ofNat (v / 256 ^ n)).toNat : Int) := by
  rw [pow_bits, UInt8.toNat_ofNat']
  rfl
theorem shr_zero (v n : Nat) : ((v : Int) / 2 ^ (8 * n) != 0) = !decide (v < 256 ^ n) := by
  rw [pow_bits]
  have hp : 0 < 256 ^ n := Nat.pow_pos (by omega)
  by_cases h : v < 256 ^ n
  · have e : (v : Int) / ((256 ^ n : Nat) : Int) = 0 := by
      have := Nat.div_eq_of_lt h
      exact_mod_cast this
    rw [e]; simp [h]
  · have e : (v : Int) / ((256 ^ n : Nat) : Int) ≠ 0 := by
      have h1 : 1 ≤ v / 256 ^ n := (Nat.one_le_div_iff hp).2 (by omega)
      intro h0
      have : v / 256 ^ n = 0 := by exact_mod_cast h0
      omega
    rw [decide_eq_false h]
    exact bne_iff_ne.2 e
theorem chk_width {x : Int × Nat} (h : isW x.1 = false) : chk x = 1 := by unfold chk; rw [h]; rfl
theorem chk_over {x : Int × Nat} (h : isW x.1 = true) (h2 : ¬ x.2 < 256 ^ x.1.toNat) : chk x = 19 := by unfold chk; rw [h, if_neg h2]; rfl
theorem chk_ok {x : Int × Nat} (h : isW x.1 = true) (h2 : x.2 < 256 ^ x.1.toNat) : chk x = 0 := by unfold chk; rw [h, if_pos h2]; rfl
theorem mem_take_snoc {l : List (Int × Nat)} {k : Nat} (hk : k < l.length) (h : ∀ x ∈ l.take k, chk x = 0) (hx : chk l[k] = 0) : ∀ x ∈ l.take (k + 1), chk x = 0 := by
  intro x hm
  rw [List.take_succ_eq_append_getElem hk] at hm
  rcases List.mem_append.1 hm with hm | hm
  · exact h x hm
  · rw [List.mem_singleton.1 hm]; exact hx
theorem packed_err {l : List (Int × Nat)} (h : perr l ≠ 0) : packed l = [] := by unfold packed; rw [if_neg h]

/-! ### Numbers out of octets -/
/-- The numbers of the given widths with which octets begin. -/
def nums (l : List UInt8) : List Int → List Nat
  | [] => []
  | w :: ws => val (l.take w.toNat) :: nums (l.drop w.toNat) ws
def need (ws : List Int) : Nat := (ws.map Int.toNat).sum
def uerr (l : List UInt8) (ws : List Int) : Nat := if ws.all isW then (if l.length < need ws then 2 else 0) else 1
def unpacked (l : List UInt8) (ws : List Int) : List Nat := if uerr l ws = 0 then nums l ws else []
theorem length_nums (l : List UInt8) (ws : List Int) : (nums l ws).length = ws.length := by
  induction ws generalizing l with
  | nil => rfl
  | cons w ws ih => simp only [nums, List.length_cons, ih]
theorem isW_iff (w : Int) : isW w = true ↔ 1 ≤ w ∧ w ≤ 8 := by unfold isW; rw [decide_eq_true_iff]
theorem need_le (ws : List Int) (h : ∀ w ∈ ws, isW w = true) : need ws ≤ 8 * ws.length := by
  induction ws with
  | nil => simp [need]
  | cons w ws ih =>
    have h1 := (isW_iff w).1 (h w List.mem_cons_self)
    have h2 := ih fun y hy => h y (List.mem_cons_of_mem _ hy)
    unfold need at h2 ⊢
    rw [List.map_cons, List.sum_cons, List.length_cons]; omega
theorem need_snoc (ws : List Int) (k : Nat) (h : k < ws.length) : need (ws.take (k + 1)) = need (ws.take k) + ws[k].toNat := by
  unfold need
  rw [List.take_succ_eq_append_getElem h, List.map_append, List.sum_append]
  simp
theorem need_take_le (ws : List Int) (k : Nat) : need (ws.take k) ≤ need ws := by
  have : need ws = need (ws.take k) + need (ws.drop k) := by
    unfold need
    rw [← List.sum_append, ← List.map_append, List.take_append_drop]
  omega
theorem nums_append (l : List UInt8) (us ws : List Int) : nums l (us ++ ws) = nums l us ++ nums (l.drop (need us)) ws := by
  induction us generalizing l with
  | nil => simp [nums, need]
  | cons u us ih =>
    simp only [List.cons_append, nums, ih, List.drop_drop]
    unfold need
    rw [List.map_cons, List.sum_cons]
theorem nums_snoc (l : List UInt8) (ws : List Int) (k : Nat) (h : k < ws.length) : nums l (ws.take (k + 1)) = nums l (ws.take k) ++ [val ((l.drop (need (ws.take k))).take ws[k].toNat)] := by
  rw [List.take_succ_eq_append_getElem h, nums_append]
  rfl
theorem nums_lt (l : List UInt8) (ws : List Int) (h : ∀ w ∈ ws, isW w = true) : ∀ n ∈ nums l ws, n < 18446744073709551616 := by
  induction ws generalizing l with
  | nil => simp [nums]
  | cons w ws ih =>
    intro n hn
    rcases List.mem_cons.1 hn with rfl | hn
    · have h1 := (isW_iff w).1 (h w List.mem_cons_self)
      have := val_lt (l.take w.toNat)
      have h2 : (l.take w.toNat).length ≤ 8 := by rw [List.length_take]; omega
      have h3 : 256 ^ (l.take w.toNat).length ≤ 256 ^ 8 := Nat.pow_le_pow_right (by omega) h2
      omega
    · exact ih _ (fun y hy => h y (List.mem_cons_of_mem _ hy)) n hn

/-! ### Blocks -/
def pad (n : Nat) (l : List UInt8) : List UInt8 := l ++ List.replicate (n - l.length) 0
theorem length_pad (n : Nat) (l : List UInt8) (h : l.length ≤ n) : (pad n l).length = n := by
  unfold pad; rw [List.length_append, List.length_replicate]; omega
/-- Clear from a place on, which is one of them or their end. -/
def clr (l : List UInt8) (f : Int) : Bool := decide (0 ≤ f ∧ f ≤ l.length) && (l.drop f.toNat).all (· == 0)
theorem clr_pad (n : Nat) (l : List UInt8) (h : l.length ≤ n) : clr (pad n l) l.length = true := by
  unfold clr
  rw [length_pad n l h]
  unfold pad
  simp
  omega
theorem clr_no {l : List UInt8} {f j : Nat} (h : f + j < l.length) (h0 : l.getD (f + j) 0 ≠ 0) : clr l f = false := by
  unfold clr
  rw [Bool.and_eq_false_iff]
  right
  rw [List.all_eq_false]
  refine ⟨l[f + j], ?_, ?_⟩
  · rw [Int.toNat_natCast]
    exact List.mem_iff_getElem?.2 ⟨j, by rw [List.getElem?_drop, List.getElem?_eq_getElem h]⟩
  · have : l.getD (f + j) 0 = l[f + j] := by simp [List.getD, h]
    rw [this] at h0
    simpa using h0
theorem clr_yes {l : List UInt8} {f : Nat} (hf : f ≤ l.length) (h : ∀ j, f + j < l.length → l.getD (f + j) 0 = 0) : clr l f = true := by
  unfold clr
  rw [Bool.and_eq_true]
  refine ⟨decide_eq_true ⟨by omega, by omega⟩, ?_⟩
  rw [List.all_eq_true]
  intro x hx
  rw [Int.toNat_natCast] at hx
  obtain ⟨j, hj⟩ := List.mem_iff_getElem?.1 hx
  rw [List.getElem?_drop] at hj
  have hlt : f + j < l.length := (List.getElem?_eq_some_iff.1 hj).1
  have := h j hlt
  rw [List.getD_eq_getElem?_getD, hj] at this
  simpa using this
def ClrTo (l : List UInt8) (f k : Nat) : Prop := ∀ j, j < k → l.getD (f + j) 0 = 0
theorem ClrTo.succ {l : List UInt8} {f k : Nat} (h : ClrTo l f k) (e : l.getD (f + k) 0 = 0) : ClrTo l f (k + 1) := by
  intro j hj
  by_cases hk : j = k
  · rw [hk]; exact e
  · exact h j (by omega)

theorem uerr_one (l : List UInt8) (w : Nat) (h : 1 ≤ w ∧ w ≤ 8) (hl : w ≤ l.length) : uerr l [(w : Int)] = 0 ∧ unpacked l [(w : Int)] = [val (l.take w)] := by
  have hw : isW (w : Int) = true := (isW_iff _).2 ⟨by omega, by omega⟩
  have e : uerr l [(w : Int)] = 0 := by
    unfold uerr need
    simp only [List.all_cons, List.all_nil, hw, Bool.and_self, if_true, List.map_cons, List.map_nil, List.sum_cons, List.sum_nil, Int.toNat_natCast]
    rw [if_neg (by omega)]
  refine ⟨e, ?_⟩
  unfold unpacked
  rw [if_pos e]
  simp [nums]
theorem uerr_zero {l : List UInt8} {ws : List Int} (h : uerr l ws = 0) : (∀ w ∈ ws, isW w = true) ∧ need ws ≤ l.length := by
  unfold uerr at h
  split at h
  · rename_i h1
    split at h
    · simp at h
    · exact ⟨List.all_eq_true.1 h1, by omega⟩
  · simp at h
theorem uerr_short {l : List UInt8} {ws : List Int} (h : ∀ w ∈ ws, isW w = true) (hl : l.length < need ws) : uerr l ws = 2 := by
  unfold uerr
  rw [if_pos (List.all_eq_true.2 h), if_pos hl]
theorem need_pos {ws : List Int} (h : ∀ w ∈ ws, isW w = true) (h0 : need ws = 0) : ws = [] := by
  cases ws with
  | nil => rfl
  | cons w ws =>
    have := (isW_iff w).1 (h w List.mem_cons_self)
    unfold need at h0
    rw [List.map_cons, List.sum_cons] at h0
    omega
theorem nums_get (l : List UInt8) (ws : List Int) (k : Nat) (h : k < ws.length) : (nums l ws).getD k 0 = val ((l.drop (need (ws.take k))).take ws[k].toNat) := by
  have e : nums l ws = nums l (ws.take k) ++ nums (l.drop (need (ws.take k))) (ws.drop k) := by rw [← nums_append, List.take_append_drop]
  rw [e, List.getD_eq_getElem?_getD, List.getElem?_append_right (by rw [length_nums, List.length_take]; omega), length_nums, List.length_take, Nat.min_eq_left (by omega), Nat.sub_self, List.drop_eq_getElem_cons h]
  rfl

/-! ### There and back -/
theorem nums_recs (l : List (Int × Nat)) (b : List UInt8) (h : ∀ x ∈ l, chk x = 0) : nums (recs l ++ b) (l.map (·.1)) = l.map (·.2) := by
  induction l with
  | nil => rfl
  | cons x l ih =>
    have h1 := chk_zero (h x List.mem_cons_self)
    have hl : (rec1 x).length = x.1.toNat := length_be _ _
    have e : recs (x :: l) ++ b = rec1 x ++ (recs l ++ b) := by unfold recs; rw [List.flatMap_cons, List.append_assoc]
    rw [e, List.map_cons, List.map_cons, nums, List.take_left' hl, List.drop_left' hl, ih fun y hy => h y (List.mem_cons_of_mem _ hy)]
    congr 1
    unfold rec1
    rw [val_be, Nat.mod_eq_of_lt h1.2.2]
theorem uerr_recs (l : List (Int × Nat)) (b : List UInt8) (h : ∀ x ∈ l, chk x = 0) : uerr (recs l ++ b) (l.map (·.1)) = 0 := by
  have h1 : (l.map (·.1)).all isW = true := by
    rw [List.all_eq_true]
    intro w hw
    obtain ⟨x, hx, rfl⟩ := List.mem_map.1 hw
    have := chk_zero (h x hx)
    exact (isW_iff _).2 ⟨this.1, this.2.1⟩
  have h2 : need (l.map (·.1)) = (recs l).length := by
    rw [recs_len]
    unfold need
    rw [List.map_map]
    rfl
  unfold uerr
  rw [if_pos h1, if_neg]
  rw [h2, List.length_append]; omega
theorem unpacked_recs (l : List (Int × Nat)) (b : List UInt8) (h : ∀ x ∈ l, chk x = 0) : unpacked (recs l ++ b) (l.map (·.1)) = l.map (·.2) := by
  unfold unpacked
  rw [if_pos (uerr_recs l b h), nums_recs l b h]
/-- Two records of the same widths. -/
theorem recs_inj (l m : List (Int × Nat)) (hl : ∀ x ∈ l, chk x = 0) (hm : ∀ x ∈ m, chk x = 0) (hw : l.map (·.1) = m.map (·.1)) : recs l = recs m ↔ l.map (·.2) = m.map (·.2) := by
  constructor
  · intro h
    have h1 := nums_recs l [] hl
    have h2 := nums_recs m [] hm
    rw [← h1, ← h2, h, hw]
  · intro h
    have : l = m := by
      apply List.ext_getElem? fun i => ?_
      have e1 := congrArg (fun a : List Int => a[i]?) hw
      have e2 := congrArg (fun a : List Nat => a[i]?) h
      simp only [List.getElem?_map] at e1 e2
      cases h1 : l[i]? with
      | none => rw [h1] at e1; cases h2 : m[i]? with
        | none => rfl
        | some y => rw [h2] at e1; simp at e1
      | some x => rw [h1] at e1 e2; cases h2 : m[i]? with
        | none => rw [h2] at e1; simp at e1
        | some y =>
          rw [h2] at e1 e2
          simp only [Option.map_some, Option.some.injEq] at e1 e2
          rw [Prod.ext e1 e2]
    rw [this]
/-- The numbers with others in their places. -/
def others (l : List (Int × Nat)) (o : List Nat) : List (Int × Nat) := (List.range l.length).map fun i => ((l.getD i (0, 0)).1, if i < o.length then o.getD i 0 else (l.getD i (0, 0)).2)
theorem length_others (l : List (Int × Nat)) (o : List Nat) : (others l o).length = l.length := by unfold others; simp
theorem others_fst (l : List (Int × Nat)) (o : List Nat) : l.map (·.1) = (others l o).map (·.1) := by
  apply List.ext_getElem? fun i => ?_
  unfold others
  rw [List.map_map, List.getElem?_map, List.getElem?_map]
  by_cases hi : i < l.length
  · rw [List.getElem?_range hi, List.getElem?_eq_getElem hi]
    simp [List.getD, hi]
  · rw [List.getElem?_eq_none (by omega), List.getElem?_eq_none (by simpa using hi)]
    rfl
theorem others_snoc (l : List (Int × Nat)) (o : List Nat) (k : Nat) (h : k < l.length) : (others l o).take (k + 1) = (others l o).take k ++ [(l[k].1, if k < o.length then o.getD k 0 else l[k].2)] := by
  rw [List.take_succ_eq_append_getElem (by rw [length_others]; exact h)]
  congr 2
  unfold others
  rw [List.getElem_map, List.getElem_range]
  simp [List.getD, h]
theorem others_lt (l : List (Int × Nat)) (o : List Nat) (hl : ∀ x ∈ l, x.2 < 18446744073709551616) (ho : ∀ n ∈ o, n < 18446744073709551616) : ∀ x ∈ others l o, x.2 < 18446744073709551616 := by
  intro x hx
  unfold others at hx
  obtain ⟨i, hi, rfl⟩ := List.mem_map.1 hx
  have hi' := List.mem_range.1 hi
  simp only
  split
  · rename_i h
    rw [show o.getD i 0 = o[i] by simp [List.getD, h]]
    exact ho _ (List.getElem_mem h)
  · rw [show l.getD i (0, 0) = l[i] by simp [List.getD, hi']]
    exact hl _ (List.getElem_mem hi')
/-- As the loop finds it. -/
def alikeTo (l m : List (Int × Nat)) (k : Nat) : Bool := (List.range k).all fun i => (m.getD i (0, 0)).2 == (l.getD i (0, 0)).2
theorem alikeTo_succ (l m : List (Int × Nat)) (k : Nat) : alikeTo l m (k + 1) = (alikeTo l m k && (m.getD k (0, 0)).2 == (l.getD k (0, 0)).2) := by
  unfold alikeTo
  rw [List.range_succ, List.all_append]
  simp
theorem alikeTo_iff (l m : List (Int × Nat)) (h : m.length = l.length) : alikeTo l m l.length = true ↔ l.map (·.2) = m.map (·.2) := by
  unfold alikeTo
  rw [List.all_eq_true]
  constructor
  · intro hh
    apply List.ext_getElem? fun i => ?_
    rw [List.getElem?_map, List.getElem?_map]
    by_cases hi : i < l.length
    · have := hh i (List.mem_range.2 hi)
      rw [beq_iff_eq] at this
      rw [List.getElem?_eq_getElem hi, List.getElem?_eq_getElem (by omega)]
      simp only [Option.map_some, Option.some.injEq]
      simpa [List.getD, hi, show i < m.length by omega] using this.symm
    · rw [List.getElem?_eq_none (by omega), List.getElem?_eq_none (by omega)]
  · intro hh i hi
    have hi' := List.mem_range.1 hi
    have := congrArg (fun a : List Nat => a[i]?) hh
    simp only [List.getElem?_map] at this
    rw [List.getElem?_eq_getElem hi', List.getElem?_eq_getElem (show i < m.length by omega)] at this
    rw [beq_iff_eq]
    simpa [List.getD, hi', show i < m.length by omega] using this.symm

/-! ### One behind the other -/
theorem perr_append (a b : List (Int × Nat)) : perr (a ++ b) = 0 ↔ perr a = 0 ∧ perr b = 0 := by
  constructor
  · intro h
    have := perr_zero h
    exact ⟨perr_of fun x hx => this x (List.mem_append_left _ hx), perr_of fun x hx => this x (List.mem_append_right _ hx)⟩
  · rintro ⟨h1, h2⟩
    refine perr_of fun x hx => ?_
    rcases List.mem_append.1 hx with hx | hx
    · exact perr_zero h1 x hx
    · exact perr_zero h2 x hx
theorem packed_append (a b : List (Int × Nat)) (h1 : perr a = 0) (h2 : perr b = 0) : packed (a ++ b) = packed a ++ packed b := by
  unfold packed
  rw [if_pos ((perr_append a b).2 ⟨h1, h2⟩), if_pos h1, if_pos h2]
  unfold recs
  rw [List.flatMap_append]
theorem pack8 (v : Nat) (h : v < 18446744073709551616) : perr [(8, v)] = 0 ∧ packed [(8, v)] = be v 8 := by
  have h1 : perr [((8 : Int), v)] = 0 := perr_of fun x hx => by
    rw [List.mem_singleton.1 hx]
    exact chk_ok (show isW 8 = true by decide) h
  refine ⟨h1, ?_⟩
  unfold packed
  rw [if_pos h1]
  unfold recs rec1
  simp
/-- Of two numbers the less one's octets come first. -/
theorem be_lt (v w : Nat) : ∀ n, v % 256 ^ n < w % 256 ^ n ↔ be v n < be w n := by
  intro n
  induction n with
  | zero => simp [be, Nat.mod_one]
  | succ n ih =>
    have hp : 0 < 256 ^ n := Nat.pow_pos (by omega)
    have e : ∀ x, x % 256 ^ (n + 1) = x % 256 ^ n + 256 ^ n * (x / 256 ^ n % 256) := fun x => by rw [show (256 : Nat) ^ (n + 1) = 256 ^ n * 256 from Nat.pow_succ _ _, Nat.mod_mul]
    have hv := Nat.mod_lt v hp
    have hw := Nat.mod_lt w hp
    rw [be, be, List.cons_lt_cons_iff, ← ih, e v, e w]
    have hb : ∀ x : Nat, (UInt8.ofNat (x / 256 ^ n)).toNat = x / 256 ^ n % 256 := fun x => UInt8.toNat_ofNat'
    rw [UInt8.lt_iff_toNat_lt, hb, hb]
    have heq : (UInt8.ofNat (v / 256 ^ n) = UInt8.ofNat (w / 256 ^ n)) ↔ v / 256 ^ n % 256 = w / 256 ^ n % 256 := by
      rw [← UInt8.toNat_inj, hb, hb]
    rw [heq]
    generalize v / 256 ^ n % 256 = p
    generalize w / 256 ^ n % 256 = q
    generalize v % 256 ^ n = a at *
    generalize w % 256 ^ n = b at *
    generalize 256 ^ n = N at *
    constructor
    · intro h
      rcases Nat.lt_trichotomy p q with h1 | h1 | h1
      · exact .inl h1
      · subst h1; exact .inr ⟨rfl, by omega⟩
      · exfalso
        have : N * q + N ≤ N * p := by
          have := Nat.mul_le_mul_left N (show q + 1 ≤ p by omega)
          rw [Nat.mul_add] at this; omega
        omega
    · rintro (h | ⟨rfl, h⟩)
      · have : N * p + N ≤ N * q := by
          have := Nat.mul_le_mul_left N (show p + 1 ≤ q by omega)
          rw [Nat.mul_add] at this; omega
        omega
      · omega
theorem be8_lt (v w : Nat) (hv : v < 18446744073709551616) (hw : w < 18446744073709551616) : be v 8 < be w 8 ↔ v < w := by
  rw [← be_lt, Nat.mod_eq_of_lt hv, Nat.mod_eq_of_lt hw]
end Go.Proofs.Ytahkhieoabbaaaa.Pk
