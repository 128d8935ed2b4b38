/- Plain laws of the printed functions of package turnstileref3: bits in lists against natural numbers. -/
import Derived.Test.YtkjjdodnkcmeiaaGreatDoorCi5
import Derived.Test.YtkjjdodnkcmeiaaGreatDoorPX12
import Derived.Test.YtkjjdodnkcmeiaaGreatDoorPX13
import Derived.Test.YtkjjdodnkcmeiaaGreatDoorPX14
import Derived.Test.YtkjjdodnkcmeiaaGreatDoorPX15
import Derived.Test.YtkjjdodnkcmeiaaGreatDoorPX16
import Derived.Test.YtkjjdodnkcmeiaaGreatDoorPX17
import Derived.Test.YtkjjdodnkcmeiaaGreatDoorPX18
import Derived.Test.YtkjjdodnkcmeiaaGreatDoorPX19
namespace Go.Proofs.YtkjjdodnkcmeiaaGreatDoor.PX
open Go.RowKit Go.Proofs.YtkjjdodnkcmeiaaGreatDoorW.PrintWords Go.Proofs.YtkjjdodnkcmeiaaGreatDoorW.PrintLast Go.Proofs.YtkjjdodnkcmeiaaGreatDoorW.PrintMore

/-- The bits of a number, the highest first. -/
def bitL (w x : Nat) : List Nat := (List.range w).map fun i => x / 2 ^ (w - 1 - i) % 2
theorem bitL_length (w x : Nat) : (bitL w x).length = w := by simp [bitL]
theorem bitL_getElem (w x i : Nat) (h : i < (bitL w x).length) : (bitL w x)[i] = x / 2 ^ (w - 1 - i) % 2 := by simp [bitL]
theorem bitL_getD (w x i : Nat) (h : i < w) : (bitL w x).getD i 0 = x / 2 ^ (w - 1 - i) % 2 := by
  rw [List.getD_eq_getElem?_getD, List.getElem?_eq_getElem (by rw [bitL_length]; exact h), Option.getD_some, bitL_getElem]
theorem bitL_le (w x : Nat) : ∀ n ∈ bitL w x, n ≤ 1 := by
  intro n hn
  unfold bitL at hn
  obtain ⟨i, _, rfl⟩ := List.mem_map.1 hn
  omega
theorem bitL_append (w v a b : Nat) (hb : b < 2 ^ v) : bitL (w + v) (a * 2 ^ v + b) = bitL w a ++ bitL v b := by
  apply List.ext_getElem
  · simp [bitL_length]
  · intro i h1 h2
    rw [bitL_length] at h1
    rw [bitL_getElem, List.getElem_append]
    by_cases hi : i < w
    · rw [dif_pos (by rw [bitL_length]; exact hi), bitL_getElem, show w + v - 1 - i = v + (w - 1 - i) by omega, Nat.pow_add, ← Nat.div_div_eq_div_mul]
      congr 2
      rw [Nat.mul_comm, Nat.mul_add_div (Nat.two_pow_pos _), Nat.div_eq_of_lt hb, Nat.add_zero]
    · rw [dif_neg (by rw [bitL_length]; exact hi), bitL_getElem, ← Nat.toNat_testBit, ← Nat.toNat_testBit, bitL_length, show w + v - 1 - i = v - 1 - (i - w) by omega]
      congr 1
      rw [Nat.mul_comm, Nat.testBit_two_pow_mul_add _ hb, if_pos (by omega)]
theorem natL_append (a b : List Nat) : natL (a ++ b) = natL a ++ natL b := by simp [natL]

/-! ### take -/
def takeL (tab l : List Nat) : List Nat := tab.map fun n => l.getD (n - 1) 0
theorem takeL_getElem (tab l : List Nat) (i : Nat) (h : i < tab.length) (h' : i < (takeL tab l).length) : (takeL tab l)[i] = l.getD (tab[i] - 1) 0 := by simp [takeL]
theorem takeL_bit (tab : List Nat) (x wide : Nat) (ht : ∀ n ∈ tab, 1 ≤ n ∧ n ≤ wide) : takeL tab (bitL wide x) = bitL tab.length (takeN tab x wide) := by
  apply List.ext_getElem
  · simp [takeL, bitL_length]
  · intro i h1 h2
    rw [bitL_length] at h2
    have hm := ht _ (List.getElem_mem h2)
    rw [bitL_getElem, ← Nat.toNat_testBit, takeN_bit _ _ _ _ (by omega), show tab.length - 1 - (tab.length - 1 - i) = i by omega, List.getD_eq_getElem?_getD, List.getElem?_eq_getElem h2, Option.getD_some]
    rw [takeL_getElem _ _ _ h2, bitL_getD _ _ _ (by omega), ← Nat.toNat_testBit, show wide - 1 - (tab[i] - 1) = wide - tab[i] by omega]
theorem rtake_loop (tab l : List Nat) (ht : ∀ n ∈ tab, 1 ≤ n ∧ n ≤ l.length) (hl : tab.length ≤ 64) (hl' : l.length ≤ 64) : ∀ (d k i : Nat), i + d = tab.length → d < k →
    turnstileref3_take.l0 k (natL tab) (natL l) (natL ((takeL tab l).take i)) (i : Int) = some (natL (takeL tab l)) := by
  intro d
  induction d with
  | zero =>
    intro k i hi hk
    obtain ⟨k, rfl⟩ : ∃ m, k = m + 1 := ⟨k - 1, by omega⟩
    rw [turnstileref3_take.l0.eq_2, if_neg (by rw [natL_length]; omega), List.take_of_length_le (by simp [takeL]; omega)]
  | succ d ih =>
    intro k i hi hk
    obtain ⟨k, rfl⟩ : ∃ m, k = m + 1 := ⟨k - 1, by omega⟩
    have hn := ht (tab.getD i 0) (by rw [List.getD_eq_getElem?_getD, List.getElem?_eq_getElem (by omega)]; exact List.getElem_mem _)
    have e1 : wrap64 (((tab.getD i 0 : Nat) : Int) - 1) = ((tab.getD i 0 - 1 : Nat) : Int) := by rw [wrap_in (by omega) (by omega)]; omega
    have hlen : (takeL tab l).length = tab.length := by simp [takeL]
    have hs : (takeL tab l).take (i + 1) = (takeL tab l).take i ++ [l.getD (tab.getD i 0 - 1) 0] := by
      rw [List.take_succ_eq_append_getElem (by omega)]
      congr 2
      unfold takeL
      rw [List.getElem_map, List.getD_eq_getElem?_getD (l := tab), List.getElem?_eq_getElem (by omega)]
      rfl
    rw [turnstileref3_take.l0.eq_2, if_pos (by rw [natL_length]; omega), if_pos (by omega), rd_natL, e1, if_pos (by omega), if_pos (by rw [natL_length]; omega), if_pos (by rw [natL_length, List.length_take]; omega), rd_natL, wrap_inc (by omega)]
    have := ih k (i + 1) (by omega) (by omega)
    rw [hs, natL_append] at this
    exact this
theorem rtake_eq (tab l : List Nat) (ht : ∀ n ∈ tab, 1 ≤ n ∧ n ≤ l.length) (hl : tab.length ≤ 64) (hl' : l.length ≤ 64) (k : Nat) (hk : 64 < k) : turnstileref3_take.f k (natL tab) (natL l) = some (natL (takeL tab l)) :=
  rtake_loop tab l ht hl hl' tab.length k 0 (by omega) (by omega)

/-! ### sum -/
def sumL (a b : List Nat) : List Nat := (List.range a.length).map fun i => (a.getD i 0 + b.getD i 0) % 2
theorem sumL_bit (w x y : Nat) : sumL (bitL w x) (bitL w y) = bitL w (x ^^^ y) := by
  unfold sumL
  rw [bitL_length]
  show _ = (List.range w).map _
  refine List.map_congr_left fun i hi => ?_
  have hi' := List.mem_range.1 hi
  rw [bitL_getD _ _ _ hi', bitL_getD _ _ _ hi', ← Nat.toNat_testBit, ← Nat.toNat_testBit, ← Nat.toNat_testBit, Nat.testBit_xor]
  cases x.testBit (w - 1 - i) <;> cases y.testBit (w - 1 - i) <;> rfl
theorem rsum_loop (a b : List Nat) (ha : ∀ n ∈ a, n ≤ 1) (hb : ∀ n ∈ b, n ≤ 1) (hl : a.length ≤ 64) (hl' : a.length ≤ b.length) : ∀ (d k i : Nat), i + d = a.length → d < k →
    turnstileref3_sum.l0 k (natL a) (natL b) (natL ((sumL a b).take i)) (i : Int) = some (natL (sumL a b)) := by
  intro d
  induction d with
  | zero =>
    intro k i hi hk
    obtain ⟨k, rfl⟩ : ∃ m, k = m + 1 := ⟨k - 1, by omega⟩
    rw [turnstileref3_sum.l0.eq_2, if_neg (by rw [natL_length]; omega), List.take_of_length_le (by simp [sumL]; omega)]
  | succ d ih =>
    intro k i hi hk
    obtain ⟨k, rfl⟩ : ∃ m, k = m + 1 := ⟨k - 1, by omega⟩
    have h1 := ha (a.getD i 0) (by rw [List.getD_eq_getElem?_getD, List.getElem?_eq_getElem (by omega)]; exact List.getElem_mem _)
    have h2 := hb (b.getD i 0) (by rw [List.getD_eq_getElem?_getD, List.getElem?_eq_getElem (by omega)]; exact List.getElem_mem _)
    have e1 : wrap64 (((a.getD i 0 : Nat) : Int) + ((b.getD i 0 : Nat) : Int)) = ((a.getD i 0 + b.getD i 0 : Nat) : Int) := by rw [wrap_in (by omega) (by omega)]; omega
    have e2 : Int.tmod ((a.getD i 0 + b.getD i 0 : Nat) : Int) 2 = (((a.getD i 0 + b.getD i 0) % 2 : Nat) : Int) := by rw [Int.tmod_eq_emod_of_nonneg (by omega)]; omega
    have hlen : (sumL a b).length = a.length := by simp [sumL]
    have hs : (sumL a b).take (i + 1) = (sumL a b).take i ++ [(a.getD i 0 + b.getD i 0) % 2] := by
      rw [List.take_succ_eq_append_getElem (by omega)]
      congr 2
      unfold sumL
      rw [List.getElem_map, List.getElem_range]
    rw [turnstileref3_sum.l0.eq_2, if_pos (by rw [natL_length]; omega), if_pos (by omega), if_pos (by rw [natL_length]; omega), if_pos (by rw [natL_length, List.length_take]; omega), rd_natL, rd_natL, e1, e2, wrap_inc (by omega)]
    have := ih k (i + 1) (by omega) (by omega)
    rw [hs, natL_append] at this
    exact this
theorem rsum_eq (a b : List Nat) (ha : ∀ n ∈ a, n ≤ 1) (hb : ∀ n ∈ b, n ≤ 1) (hl : a.length ≤ 64) (hl' : a.length ≤ b.length) (k : Nat) (hk : 64 < k) : turnstileref3_sum.f k (natL a) (natL b) = some (natL (sumL a b)) :=
  rsum_loop a b ha hb hl hl' a.length k 0 (by omega) (by omega)

/-! ### left -/
def leftL (l : List Nat) (n : Nat) : List Nat := (List.range l.length).map fun i => l.getD ((i + n) % l.length) 0
theorem leftL_bit (x n : Nat) (hx : x < 2 ^ 28) (hn : n = 1 ∨ n = 2) : leftL (bitL 28 x) n = bitL 28 (halfN x n) := by
  unfold leftL
  rw [bitL_length]
  show _ = (List.range 28).map _
  refine List.map_congr_left fun i hi => ?_
  have hi' := List.mem_range.1 hi
  have h4 : x / 2 ^ (28 - n) < 2 ^ n := by
    rw [Nat.div_lt_iff_lt_mul (Nat.two_pow_pos _), ← Nat.pow_add, show n + (28 - n) = 28 by omega]
    exact hx
  rw [bitL_getD _ _ _ (Nat.mod_lt _ (by decide)), ← Nat.toNat_testBit, ← Nat.toNat_testBit]
  congr 1
  unfold halfN
  rw [Nat.testBit_mod_two_pow, ← or_add _ _ _ h4, Nat.testBit_or, Nat.testBit_mul_two_pow, Nat.testBit_div_two_pow]
  have hlt : decide (28 - 1 - i < 28) = true := decide_eq_true (by omega)
  rw [hlt, Bool.true_and]
  by_cases hc : n ≤ 28 - 1 - i
  · rw [decide_eq_true hc, Bool.true_and, Nat.testBit_lt_two_pow (Nat.lt_of_lt_of_le hx (Nat.pow_le_pow_right (by decide) (show 28 ≤ 28 - 1 - i + (28 - n) by omega))), Bool.or_false, Nat.mod_eq_of_lt (by omega), show 28 - 1 - (i + n) = 28 - 1 - i - n by omega]
  · rw [decide_eq_false hc, Bool.false_and, Bool.false_or, show (i + n) % 28 = i + n - 28 by omega]
    congr 1
    omega
theorem rleft_loop (l : List Nat) (n : Nat) (hn : n ≤ 2) (h0 : l.length = 28) : ∀ (d k i : Nat), i + d = 28 → d < k →
    turnstileref3_left.l0 k (natL l) (n : Int) (natL ((leftL l n).take i)) (i : Int) = some (natL (leftL l n)) := by
  intro d
  induction d with
  | zero =>
    intro k i hi hk
    obtain ⟨k, rfl⟩ : ∃ m, k = m + 1 := ⟨k - 1, by omega⟩
    rw [turnstileref3_left.l0.eq_2, if_neg (by rw [natL_length]; omega), List.take_of_length_le (by simp [leftL]; omega)]
  | succ d ih =>
    intro k i hi hk
    obtain ⟨k, rfl⟩ : ∃ m, k = m + 1 := ⟨k - 1, by omega⟩
    have e1 : wrap64 ((i : Int) + (n : Int)) = ((i + n : Nat) : Int) := by rw [wrap_in (by omega) (by omega)]; omega
    have e2 : Int.tmod ((i + n : Nat) : Int) ((28 : Nat) : Int) = (((i + n) % 28 : Nat) : Int) := by rw [Int.tmod_eq_emod_of_nonneg (by omega)]; omega
    have hlen : (leftL l n).length = 28 := by simp [leftL, h0]
    have hs : (leftL l n).take (i + 1) = (leftL l n).take i ++ [l.getD ((i + n) % 28) 0] := by
      rw [List.take_succ_eq_append_getElem (by omega)]
      congr 2
      unfold leftL
      rw [List.getElem_map, List.getElem_range, h0]
    rw [turnstileref3_left.l0.eq_2, natL_length, h0, if_pos (by omega), if_neg (by omega), e1, e2, if_pos (by omega), if_pos (by omega), if_pos (by rw [natL_length, List.length_take]; omega), rd_natL, wrap_inc (by omega)]
    have := ih k (i + 1) (by omega) (by omega)
    rw [hs, natL_append] at this
    exact this
theorem rleft_eq (l : List Nat) (n : Nat) (hn : n ≤ 2) (h0 : l.length = 28) (k : Nat) (hk : 64 < k) : turnstileref3_left.f k (natL l) (n : Int) = some (natL (leftL l n)) :=
  rleft_loop l n hn h0 28 k 0 (by omega) (by omega)

/-! ### bits -/
theorem bitL_snoc (x j : Nat) (h : j < 8) : (bitL 8 x).take (j + 1) = (bitL 8 x).take j ++ [x / 2 ^ (7 - j) % 2] := by
  rw [List.take_succ_eq_append_getElem (by rw [bitL_length]; omega), bitL_getElem]
theorem rbits_in (s : ByteArray) (hs : s.size ≤ 64) (i : Nat) (hi : i < s.size) (l : List Nat) (hl : l.length ≤ 512) : ∀ (d k j : Nat), j + d = 8 →
    turnstileref3_bits.l1 (k + d + 1) s (natL (l ++ (bitL 8 ((bl s).getD i 0).toNat).take j)) (i : Int) (7 - (j : Int)) = turnstileref3_bits.l0 k s (natL (l ++ bitL 8 ((bl s).getD i 0).toNat)) ((i + 1 : Nat) : Int) := by
  intro d
  induction d with
  | zero =>
    intro k j hj
    rw [turnstileref3_bits.l1.eq_2, if_neg (by omega), wrap_inc (by omega), List.take_of_length_le (by rw [bitL_length]; omega)]
  | succ d ih =>
    intro k j hj
    have hc := ((bl s).getD i 0).toNat_lt
    have e1 : wrap64 (((bl s).getD i 0).toNat : Int) = (((bl s).getD i 0).toNat : Int) := wrap_in (by omega) (by omega)
    have h1 : shr .i64 ((((bl s).getD i 0).toNat : Nat) : Int) (7 - (j : Int)) = ((((bl s).getD i 0).toNat / 2 ^ (7 - j) : Nat) : Int) := by
      unfold shr
      rw [show (7 - (j : Int)).toNat = 7 - j by omega, Nat.min_eq_left (show 7 - j ≤ IntKind.i64.bits by have : IntKind.i64.bits = 64 := rfl; omega), Int.natCast_ediv, Int.natCast_pow]
      rfl
    have e2' : ∀ q : Nat, Int.tmod (q : Int) 2 = ((q % 2 : Nat) : Int) := fun q => by rw [Int.tmod_eq_emod_of_nonneg (by omega)]; omega
    have e2 := e2' (((bl s).getD i 0).toNat / 2 ^ (7 - j))
    have e3 : wrap64 (7 - (j : Int) - 1) = 7 - ((j + 1 : Nat) : Int) := by rw [wrap_in (by omega) (by omega)]; omega
    rw [show k + (d + 1) + 1 = (k + d + 1) + 1 by omega, turnstileref3_bits.l1.eq_2, if_pos (by omega), if_pos (by omega), if_pos (by omega), if_pos (by omega), if_pos (by rw [natL_length, List.length_append, List.length_take]; omega), bt_nat, e1, h1, e2, e3]
    have := ih k (j + 1) (by omega)
    rw [bitL_snoc _ _ (by omega), ← List.append_assoc, natL_append (l ++ _)] at this
    exact this
def bitsL (l : List UInt8) : List Nat := l.flatMap fun c => bitL 8 c.toNat
theorem bitsL_snoc (l : List UInt8) (c : UInt8) : bitsL (l ++ [c]) = bitsL l ++ bitL 8 c.toNat := by simp [bitsL]
theorem bitsL_length (l : List UInt8) : (bitsL l).length = 8 * l.length := by
  induction l with
  | nil => rfl
  | cons c l ih => simp [bitsL, bitL_length] at ih ⊢; omega
theorem numB_snoc (l : List UInt8) (c : UInt8) : numB (l ++ [c]) = numB l * 256 + c.toNat := by simp [numB]
theorem bitsL_eq (l : List UInt8) (n : Nat) (h : l.length = n) : bitsL l = bitL (8 * n) (numB l) := by
  induction n generalizing l with
  | zero =>
    obtain rfl := List.length_eq_zero_iff.1 h
    rfl
  | succ n ih =>
    have hne : l ≠ [] := by intro e; rw [e] at h; simp at h
    have e := List.dropLast_concat_getLast hne
    have hl : l.dropLast.length = n := by rw [List.length_dropLast]; omega
    rw [← e, bitsL_snoc, numB_snoc, ih _ hl, show 8 * (n + 1) = 8 * n + 8 by omega]
    exact (bitL_append (8 * n) 8 _ _ (UInt8.toNat_lt _)).symm
theorem rbits_loop (s : ByteArray) (hs : s.size ≤ 64) : ∀ (d k i : Nat), i + d = s.size →
    turnstileref3_bits.l0 (k + 10 * d + 1) s (natL (bitsL ((bl s).take i))) (i : Int) = some (natL (bitsL (bl s))) := by
  intro d
  induction d with
  | zero =>
    intro k i hi
    rw [turnstileref3_bits.l0.eq_2, if_neg (by omega), List.take_of_length_le (by rw [bl_length]; omega)]
  | succ d ih =>
    intro k i hi
    have hp : i < (bl s).length := by rw [bl_length]; omega
    have hg : (bl s)[i] = (bl s).getD i 0 := by rw [List.getD_eq_getElem?_getD, List.getElem?_eq_getElem hp]; rfl
    rw [turnstileref3_bits.l0.eq_2, if_pos (by omega), show k + 10 * (d + 1) = (k + 10 * d + 1) + 8 + 1 by omega]
    have h := rbits_in s hs i (by omega) (bitsL ((bl s).take i)) (by rw [bitsL_length, List.length_take]; omega) 8 (k + 10 * d + 1) 0 (by omega)
    rw [List.take_zero, List.append_nil] at h
    have e0 : (7 : Int) - ((0 : Nat) : Int) = 7 := by omega
    rw [e0] at h
    rw [h, ← bitsL_snoc, ← hg, ← List.take_succ_eq_append_getElem hp]
    exact ih k (i + 1) (by omega)
theorem rbits_eq (s : ByteArray) (hs : s.size = 8) (k : Nat) (hk : 100 < k) : turnstileref3_bits.f k s = some (natL (bitL 64 (numB (bl s)))) := by
  have h := rbits_loop s (by omega) 8 (k - 81) 0 (by omega)
  rw [show k - 81 + 10 * 8 + 1 = k by omega, bitsL_eq (bl s) 8 (by rw [bl_length]; exact hs)] at h
  exact h
end Go.Proofs.YtkjjdodnkcmeiaaGreatDoor.PX
