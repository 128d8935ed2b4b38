/- Plain laws of the printed functions of package turnstileref3: bytes, the boxes and F. -/
import Derived.Test.YtkjjdodnkcmeiaaGreatDoorPurD
import Derived.Test.YtkjjdodnkcmeiaaGreatDoorPX20
import Derived.Test.YtkjjdodnkcmeiaaGreatDoorPX21
namespace Go.Proofs.YtkjjdodnkcmeiaaGreatDoor.PX
open Go.RowKit Go.Proofs.YtkjjdodnkcmeiaaGreatDoorW.PrintWords Go.Proofs.YtkjjdodnkcmeiaaGreatDoorW.PrintLast Go.Proofs.YtkjjdodnkcmeiaaGreatDoorW.PrintMore

/-! ### bytes -/
def partVal (x i j : Nat) : Nat := x / 2 ^ (64 - 8 * i - j) % 2 ^ j
theorem partVal_next (x i j : Nat) (h : 8 * i + j < 64) : partVal x i (j + 1) = 2 * partVal x i j + x / 2 ^ (63 - (8 * i + j)) % 2 := by
  unfold partVal
  have e1 : 64 - 8 * i - j = (63 - (8 * i + j)) + 1 := by omega
  have e2 : 64 - 8 * i - (j + 1) = 63 - (8 * i + j) := by omega
  rw [e1, e2, Nat.pow_succ 2 j, Nat.mul_comm (2 ^ j) 2, Nat.mod_mul, Nat.pow_succ 2 (63 - (8 * i + j)), ← Nat.div_div_eq_div_mul]
  omega
theorem r3bytes_in (x : Nat) (i : Nat) (hi : i < 8) (l : List UInt8) (hl : l.length ≤ 64) : ∀ (d k j : Nat), j + d = 8 →
    turnstileref3_bytes.l1 (k + d + 1) (natL (bitL 64 x)) (toInts l) ((8 * i : Nat) : Int) ((partVal x i j : Nat) : Int) (j : Int) = turnstileref3_bytes.l0 k (natL (bitL 64 x)) (toInts (l ++ [byteAt x i])) ((8 * (i + 1) : Nat) : Int) := by
  intro d
  induction d with
  | zero =>
    intro k j hj
    obtain rfl : j = 8 := by omega
    have e1 : wrap64 (((8 * i : Nat) : Int) + 8) = ((8 * (i + 1) : Nat) : Int) := by rw [wrap_in (by omega) (by omega)]; omega
    have e2 : ((partVal x i 8 : Nat) : Int) % 256 = ((byteAt x i).toNat : Int) := by
      rw [byteAt_nat]
      unfold partVal
      rw [show 64 - 8 * i - 8 = 56 - 8 * i by omega]
      omega
    rw [turnstileref3_bytes.l1.eq_2, if_neg (by omega), if_pos (by simp [toInts]; omega), e1, e2]
    congr 1
    simp [toInts]
  | succ d ih =>
    intro k j hj
    have hb : partVal x i j < 2 ^ j := Nat.mod_lt _ (Nat.two_pow_pos _)
    have hb' : 2 ^ j ≤ 2 ^ 7 := Nat.pow_le_pow_right (by decide) (by omega)
    have e1 : wrap64 (((8 * i : Nat) : Int) + (j : Int)) = ((8 * i + j : Nat) : Int) := by rw [wrap_in (by omega) (by omega)]; omega
    have e2 : wrap64 (2 * ((partVal x i j : Nat) : Int)) = ((2 * partVal x i j : Nat) : Int) := by rw [wrap_in (by omega) (by omega)]; omega
    have hbit : (bitL 64 x).getD (8 * i + j) 0 = x / 2 ^ (63 - (8 * i + j)) % 2 := by rw [bitL_getD _ _ _ (by omega)]
    have e3 : wrap64 (((2 * partVal x i j : Nat) : Int) + ((x / 2 ^ (63 - (8 * i + j)) % 2 : Nat) : Int)) = ((partVal x i (j + 1) : Nat) : Int) := by
      rw [partVal_next x i j (by omega)]
      have := Nat.mod_lt (x / 2 ^ (63 - (8 * i + j))) (show 0 < 2 by decide)
      generalize x / 2 ^ (63 - (8 * i + j)) % 2 = q at *
      rw [wrap_in (by omega) (by omega)]
      omega
    rw [show k + (d + 1) + 1 = (k + d + 1) + 1 by omega, turnstileref3_bytes.l1.eq_2, if_pos (by omega), e1, if_pos (by omega), if_pos (by rw [natL_length, bitL_length]; omega), rd_natL, hbit, e2, e3, wrap_inc (by omega)]
    exact ih k (j + 1) (by omega)
theorem r3bytes_loop (x : Nat) : ∀ (d k i : Nat), i + d = 8 →
    turnstileref3_bytes.l0 (k + 10 * d + 1) (natL (bitL 64 x)) (toInts ((bytesN x).take i)) ((8 * i : Nat) : Int) = some ⟨(bytesN x).toArray⟩ := by
  intro d
  induction d with
  | zero =>
    intro k i hi
    have e1 : wrap64 (((8 * i : Nat) : Int) + 8) = ((8 * i + 8 : Nat) : Int) := by rw [wrap_in (by omega) (by omega)]; omega
    rw [turnstileref3_bytes.l0.eq_2, e1, if_neg (by rw [natL_length, bitL_length]; omega), List.take_of_length_le (by simp [bytesN]; omega), strOfNums_toInts]
  | succ d ih =>
    intro k i hi
    have e1 : wrap64 (((8 * i : Nat) : Int) + 8) = ((8 * i + 8 : Nat) : Int) := by rw [wrap_in (by omega) (by omega)]; omega
    rw [turnstileref3_bytes.l0.eq_2, e1, if_pos (by rw [natL_length, bitL_length]; omega), show k + 10 * (d + 1) = (k + 10 * d + 1) + 8 + 1 by omega]
    have h0 : ((partVal x i 0 : Nat) : Int) = 0 := by
      unfold partVal
      rw [Nat.pow_zero, Nat.mod_one]
      rfl
    have h := r3bytes_in x i (by omega) ((bytesN x).take i) (by rw [List.length_take]; omega) 8 (k + 10 * d + 1) 0 (by omega)
    rw [h0] at h
    have hp : i < (bytesN x).length := by simp [bytesN]; omega
    have hs : (bytesN x).take (i + 1) = (bytesN x).take i ++ [byteAt x i] := by
      rw [List.take_succ_eq_append_getElem hp]
      congr 2
      simp [bytesN]
    rw [show ((0 : Nat) : Int) = 0 from rfl] at h
    rw [h, ← hs]
    exact ih k (i + 1) (by omega)
theorem r3bytes_eq (x : Nat) (k : Nat) (hk : 100 < k) : turnstileref3_bytes.f k (natL (bitL 64 x)) = some ⟨(bytesN x).toArray⟩ := by
  have h := r3bytes_loop x 8 (k - 81) 0 (by omega)
  rw [show k - 81 + 10 * 8 + 1 = k by omega] at h
  exact h

/-! ### F -/
def wideN : List Nat := [32, 1, 2, 3, 4, 5, 4, 5, 6, 7, 8, 9, 8, 9, 10, 11, 12, 13, 12, 13, 14, 15, 16, 17, 16, 17, 18, 19, 20, 21, 20, 21, 22, 23, 24, 25, 24, 25, 26, 27, 28, 29, 28, 29, 30, 31, 32, 1]
theorem rotN_bit (r i b : Nat) (hr : r < 4294967296) (hi : i < 8) (hb : b < 32) : (rotN r i).testBit b = r.testBit ((b + 32 - rotS i) % 32) := by
  have h1 : rotS i ≤ 31 ∧ 1 ≤ rotS i := (rotS_eq i hi).2.2
  unfold rotN
  rw [show (4294967296 : Nat) = 2 ^ 32 from rfl, Nat.testBit_or, Nat.testBit_mod_two_pow, Nat.testBit_mul_two_pow, Nat.testBit_div_two_pow, decide_eq_true hb, Bool.true_and]
  by_cases hc : rotS i ≤ b
  · rw [decide_eq_true hc, Bool.true_and, Nat.testBit_lt_two_pow (Nat.lt_of_lt_of_le hr (Nat.pow_le_pow_right (show 0 < 2 by decide) (show 32 ≤ b + (32 - rotS i) by omega))), Bool.or_false, show (b + 32 - rotS i) % 32 = b - rotS i by omega]
  · rw [decide_eq_false hc, Bool.false_and, Bool.false_or, show (b + 32 - rotS i) % 32 = b + (32 - rotS i) by omega]
theorem six_wide (r key i : Nat) (hr : r < 4294967296) (hi : i < 8) : (takeN wideN r 32 ^^^ key) / 2 ^ (42 - 6 * i) % 64 = sixN r key i := by
  apply Nat.eq_of_testBit_eq
  intro b
  have hrot := rotN_lt r i hr
  unfold sixN
  rw [show (64 : Nat) = 2 ^ 6 from rfl, Nat.testBit_mod_two_pow, Nat.testBit_xor, Nat.testBit_mod_two_pow, Nat.testBit_div_two_pow, Nat.testBit_div_two_pow, Nat.testBit_xor, show (67108864 : Nat) = 2 ^ 26 from rfl, Nat.testBit_div_two_pow]
  by_cases hb : b < 6
  · rw [decide_eq_true hb, Bool.true_and, Bool.true_and]
    congr 1
    have hL : b + (42 - 6 * i) < wideN.length := by
      show _ < 48
      omega
    rw [takeN_bit _ _ _ _ hL, rotN_bit r i (b + 26) hr hi (by omega)]
    congr 1
    have h : ∀ (i : Fin 8) (b : Fin 6), 32 - wideN.getD (wideN.length - 1 - (b.1 + (42 - 6 * i.1))) 0 = (b.1 + 26 + 32 - rotS i.1) % 32 := by decide +kernel
    exact h ⟨i, hi⟩ ⟨b, hb⟩
  · rw [decide_eq_false hb, Bool.false_and, Bool.false_and, Bool.xor_false]
    have : rotN r i / 2 ^ 26 < 2 ^ 6 := by omega
    have h := Nat.testBit_lt_two_pow (Nat.lt_of_lt_of_le this (Nat.pow_le_pow_right (show 0 < 2 by decide) (show 6 ≤ b by omega)))
    rw [Nat.testBit_div_two_pow] at h
    exact h.symm
theorem rbox_all : ∀ (i : Fin 8), ∃ l : List Nat, turnstileref3_box.f (i.1 : Int) = some (natL l) ∧ l.length = 64 ∧ ∀ s : Fin 64, l.getD (idxN s.1) 0 = sboxN i.1 s.1 ∧ sboxN i.1 s.1 < 16 := by
  intro i
  have h : ∀ (i : Fin 8), ((turnstileref3_box.f (i.1 : Int)).getD []).length = 64 ∧ (natL (((turnstileref3_box.f (i.1 : Int)).getD []).map Int.toNat)) = (turnstileref3_box.f (i.1 : Int)).getD [] ∧ (turnstileref3_box.f (i.1 : Int)).isSome = true := by decide +kernel
  have h2 : ∀ (i : Fin 8) (s : Fin 64), (((turnstileref3_box.f (i.1 : Int)).getD []).map Int.toNat).getD (idxN s.1) 0 = sboxN i.1 s.1 ∧ sboxN i.1 s.1 < 16 := by decide +kernel
  obtain ⟨a1, a2, a3⟩ := h i
  refine ⟨((turnstileref3_box.f (i.1 : Int)).getD []).map Int.toNat, ?_, by rw [List.length_map]; exact a1, h2 i⟩
  rw [a2]
  cases hb : turnstileref3_box.f (i.1 : Int) with
  | none => rw [hb] at a3; cases a3
  | some l => rfl
theorem chunk_six (x i : Nat) (hi : i < 8) (j : Nat) (hj : j < 6) : (((bitL 48 x).take (6 * i + 6)).drop (6 * i)).getD j 0 = x / 2 ^ (42 - 6 * i) % 64 / 2 ^ (5 - j) % 2 := by
  rw [List.getD_eq_getElem?_getD, List.getElem?_drop, List.getElem?_take, if_pos (by omega), ← List.getD_eq_getElem?_getD, bitL_getD _ _ _ (by omega), ← Nat.toNat_testBit, ← Nat.toNat_testBit, show (64 : Nat) = 2 ^ 6 from rfl, Nat.testBit_mod_two_pow, Nat.testBit_div_two_pow, decide_eq_true (show 5 - j < 6 by omega), Bool.true_and]
  congr 2
  omega
theorem natL_take (l : List Nat) (n : Nat) : (natL l).take n = natL (l.take n) := by simp [natL, List.map_take]
theorem natL_drop (l : List Nat) (n : Nat) : (natL l).drop n = natL (l.drop n) := by simp [natL, List.map_drop]
theorem rsix_idx (six : Nat) (h : six < 64) : wrap64 ((wrap64 (16 * (wrap64 ((wrap64 (2 * ((six / 2 ^ 5 % 2 : Nat) : Int))) + ((six / 2 ^ 0 % 2 : Nat) : Int))))) + (wrap64 ((wrap64 ((wrap64 ((wrap64 (8 * ((six / 2 ^ 4 % 2 : Nat) : Int))) + (wrap64 (4 * ((six / 2 ^ 3 % 2 : Nat) : Int))))) + (wrap64 (2 * ((six / 2 ^ 2 % 2 : Nat) : Int))))) + ((six / 2 ^ 1 % 2 : Nat) : Int)))) = ((idxN six : Nat) : Int) ∧ idxN six < 64 := by
  have h' : ∀ six : Fin 64, wrap64 ((wrap64 (16 * (wrap64 ((wrap64 (2 * ((six.1 / 2 ^ 5 % 2 : Nat) : Int))) + ((six.1 / 2 ^ 0 % 2 : Nat) : Int))))) + (wrap64 ((wrap64 ((wrap64 ((wrap64 (8 * ((six.1 / 2 ^ 4 % 2 : Nat) : Int))) + (wrap64 (4 * ((six.1 / 2 ^ 3 % 2 : Nat) : Int))))) + (wrap64 (2 * ((six.1 / 2 ^ 2 % 2 : Nat) : Int))))) + ((six.1 / 2 ^ 1 % 2 : Nat) : Int)))) = ((idxN six.1 : Nat) : Int) ∧ idxN six.1 < 64 := by decide +kernel
  exact h' ⟨six, h⟩
theorem four_bits (n : Nat) (h : n < 16) : [wrap64 (Int.tdiv (n : Int) 8), Int.tmod (wrap64 (Int.tdiv (n : Int) 4)) 2, Int.tmod (wrap64 (Int.tdiv (n : Int) 2)) 2, Int.tmod (n : Int) 2] = natL (bitL 4 n) := by
  have h' : ∀ n : Fin 16, [wrap64 (Int.tdiv (n.1 : Int) 8), Int.tmod (wrap64 (Int.tdiv (n.1 : Int) 4)) 2, Int.tmod (wrap64 (Int.tdiv (n.1 : Int) 2)) 2, Int.tmod (n.1 : Int) 2] = natL (bitL 4 n.1) := by decide +kernel
  exact h' ⟨n, h⟩
theorem rmixed_step (X k i : Nat) (hi : i < 8) (l : List Nat) (hl : l.length ≤ 32) :
    turnstileref3_mixed.l0 (k + 1) (natL (bitL 48 X)) (natL l) (i : Int) = turnstileref3_mixed.l0 k (natL (bitL 48 X)) (natL (l ++ bitL 4 (sboxN i (X / 2 ^ (42 - 6 * i) % 64)))) ((i + 1 : Nat) : Int) := by
  have e1 : wrap64 (6 * (i : Int)) = ((6 * i : Nat) : Int) := by rw [wrap_in (by omega) (by omega)]; omega
  have e2 : wrap64 (((6 * i : Nat) : Int) + 6) = ((6 * i + 6 : Nat) : Int) := by rw [wrap_in (by omega) (by omega)]; omega
  obtain ⟨b, b1, b2, b3⟩ := rbox_all ⟨i, hi⟩
  have hs : X / 2 ^ (42 - 6 * i) % 64 < 64 := Nat.mod_lt _ (by decide)
  obtain ⟨s1, s2⟩ := rsix_idx _ hs
  obtain ⟨b4, b5⟩ := b3 ⟨_, hs⟩
  have c0 := chunk_six X i hi 0 (by omega)
  have c1 := chunk_six X i hi 1 (by omega)
  have c2 := chunk_six X i hi 2 (by omega)
  have c3 := chunk_six X i hi 3 (by omega)
  have c4 := chunk_six X i hi 4 (by omega)
  have c5 := chunk_six X i hi 5 (by omega)
  have hlen : (((bitL 48 X).take (6 * i + 6)).drop (6 * i)).length = 6 := by rw [List.length_drop, List.length_take, bitL_length]; omega
  rw [turnstileref3_mixed.l0.eq_2, if_pos (by omega), e1, e2, if_pos (by omega), if_pos (by omega), if_pos (by rw [natL_length, bitL_length]; omega), Option.bind_some, Int.toNat_natCast, Int.toNat_natCast, natL_take, natL_drop]
  generalize ((bitL 48 X).take (6 * i + 6)).drop (6 * i) = C at *
  generalize X / 2 ^ (42 - 6 * i) % 64 = six at *
  have r0 : rd (natL C) 0 = ((six / 2 ^ 5 % 2 : Nat) : Int) := by rw [← c0]; exact rd_natL C 0
  have r1 : rd (natL C) 1 = ((six / 2 ^ 4 % 2 : Nat) : Int) := by rw [← c1]; exact rd_natL C 1
  have r2 : rd (natL C) 2 = ((six / 2 ^ 3 % 2 : Nat) : Int) := by rw [← c2]; exact rd_natL C 2
  have r3 : rd (natL C) 3 = ((six / 2 ^ 2 % 2 : Nat) : Int) := by rw [← c3]; exact rd_natL C 3
  have r4 : rd (natL C) 4 = ((six / 2 ^ 1 % 2 : Nat) : Int) := by rw [← c4]; exact rd_natL C 4
  have r5 : rd (natL C) 5 = ((six / 2 ^ 0 % 2 : Nat) : Int) := by rw [← c5]; exact rd_natL C 5
  rw [r0, r1, r2, r3, r4, r5, s1, natL_length, hlen, if_pos (by omega), if_pos (by omega), if_pos (by omega), if_pos (by omega), if_pos (by omega), if_pos (by omega), b1, Option.bind_some, if_pos (by omega), if_pos (by rw [natL_length, b2]; omega), Option.bind_some, rd_natL, b4, four_bits _ b5, if_pos (by rw [natL_length, natL_length, bitL_length]; omega), wrap_inc (by omega), natL_append]
theorem r3mixed_loop (r key : Nat) (hr : r < 4294967296) (k : Nat) : ∀ (d i : Nat), i + d = 8 →
    turnstileref3_mixed.l0 (k + d) (natL (bitL 48 (takeN wideN r 32 ^^^ key))) (natL (bitL (4 * i) (outTo r key i))) (i : Int) = turnstileref3_mixed.l0 k (natL (bitL 48 (takeN wideN r 32 ^^^ key))) (natL (bitL 32 (outN r key))) ((8 : Nat) : Int) := by
  intro d
  induction d with
  | zero =>
    intro i h
    obtain rfl : i = 8 := by omega
    rfl
  | succ d ih =>
    intro i h
    rw [show k + (d + 1) = (k + d) + 1 by omega, rmixed_step _ _ _ (by omega) _ (by rw [bitL_length]; omega), six_wide r key i hr (by omega)]
    obtain ⟨_, _, _, _, b4⟩ := sbox_ok i (sixN r key i) (by omega) (sixN_lt r key i hr)
    have e : bitL (4 * i) (outTo r key i) ++ bitL 4 (sboxN i (sixN r key i)) = bitL (4 * (i + 1)) (outTo r key (i + 1)) := by
      rw [← bitL_append (4 * i) 4 _ _ b4]
      show _ = bitL (4 * i + 4) (16 * outTo r key i + sboxN i (sixN r key i))
      rw [Nat.mul_comm 16]
    rw [e]
    exact ih (i + 1) (by omega)
theorem r3mixed_eq (r key : Nat) (hr : r < 4294967296) (k : Nat) (hk : 100 < k) : turnstileref3_mixed.f k (natL (bitL 32 r)) (natL (bitL 48 key)) = some (natL (bitL 32 (mixN r key))) := by
  obtain ⟨k, rfl⟩ : ∃ m, k = (m + 1) + 8 := ⟨k - 9, by omega⟩
  have t1 : turnstileref3_tableWide.f = some (natL wideN) := rfl
  have t2 : turnstileref3_tableP.f = some (natL spreadN) := rfl
  have w1 : takeL wideN (bitL 32 r) = bitL 48 (takeN wideN r 32) := takeL_bit wideN r 32 (by decide)
  have w2 : takeL spreadN (bitL 32 (outN r key)) = bitL 32 (mixN r key) := takeL_bit spreadN (outN r key) 32 (by decide)
  have h := r3mixed_loop r key hr (k + 1) 8 0 (by omega)
  unfold turnstileref3_mixed.f
  rw [t1, Option.bind_some, rtake_eq wideN _ (by rw [bitL_length]; decide) (by decide) (by rw [bitL_length]; decide) _ (by omega), Option.bind_some, w1,
    rsum_eq _ _ (bitL_le _ _) (bitL_le _ _) (by rw [bitL_length]; decide) (by rw [bitL_length, bitL_length]; omega) _ (by omega), Option.bind_some, sumL_bit]
  refine h.trans ?_
  rw [turnstileref3_mixed.l0.eq_2, if_neg (by omega), t2, Option.bind_some, rtake_eq spreadN _ (by rw [bitL_length]; decide) (by decide) (by rw [bitL_length]; decide) _ (by omega), Option.bind_some, w2]
end Go.Proofs.YtkjjdodnkcmeiaaGreatDoor.PX
