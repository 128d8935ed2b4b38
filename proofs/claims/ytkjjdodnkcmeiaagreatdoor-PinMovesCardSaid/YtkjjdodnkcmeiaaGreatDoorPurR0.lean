/- Plain laws of the printed functions of package turnstileref6 that every answer uses: words, sixteenths, bytes, halves. -/
import Derived.Test.YtkjjdodnkcmeiaaGreatDoorPur6
import Derived.Test.YtkjjdodnkcmeiaaGreatDoorPX6
import Derived.Test.YtkjjdodnkcmeiaaGreatDoorPX8
import Derived.Test.YtkjjdodnkcmeiaaGreatDoorPX9
import Derived.Test.YtkjjdodnkcmeiaaGreatDoorPX23
namespace Go.Proofs.YtkjjdodnkcmeiaaGreatDoor.PX
open Go.RowKit Go.Proofs.YtkjjdodnkcmeiaaGreatDoorW.PrintWords Go.Proofs.YtkjjdodnkcmeiaaGreatDoorW.PrintLast Go.Proofs.YtkjjdodnkcmeiaaGreatDoorW.PrintMore
theorem rknown_eq (a : Int) : turnstileref6_known.f a = some (knownB a) := by
  unfold turnstileref6_known.f knownB
  by_cases h0 : a = 0
  · rw [if_pos h0]; simp [h0]
  · rw [if_neg h0]
    by_cases h1 : a = 1
    · rw [if_pos h1]; simp [h1]
    · rw [if_neg h1]; by_cases h3 : a = 3 <;> simp [h0, h1, h3]

theorem rdigits_loop (s : ByteArray) (lo hi : Nat) (hs : s.size ≤ 140737488355328) : ∀ (d k i : Nat), i + d = s.size → d < k →
    turnstileref6_digits.l0 k s (lo : Int) (hi : Int) (i : Int) = some (((bl s).drop i).all isDig && decide (lo ≤ s.size) && decide (s.size ≤ hi)) := by
  intro d
  induction d with
  | zero =>
    intro k i hi' hk
    obtain ⟨k, rfl⟩ : ∃ m, k = m + 1 := ⟨k - 1, by omega⟩
    rw [turnstileref6_digits.l0.eq_2, if_neg (by omega), List.drop_of_length_le (by rw [bl_length]; omega)]
    by_cases h : lo ≤ s.size
    · rw [if_pos (by omega)]; simp [h, Int.ofNat_le]
    · rw [if_neg (by omega)]; simp [h]
  | succ d ih =>
    intro k i hi' hk
    obtain ⟨k, rfl⟩ : ∃ m, k = m + 1 := ⟨k - 1, by omega⟩
    have hl : i < (bl s).length := by rw [bl_length]; omega
    rw [turnstileref6_digits.l0.eq_2, if_pos (by omega), if_pos (by omega), bt_nat, wrap_succ (by omega), drop_getD (bl s) i 0 hl, List.all_cons]
    generalize (bl s).getD i 0 = c
    by_cases h1 : c.toNat < 48
    · rw [if_pos (by omega), show isDig c = false by simp [isDig]; omega]; simp
    · rw [if_neg (by omega)]
      by_cases h2 : 57 < c.toNat
      · rw [if_pos (by omega), show isDig c = false by simp [isDig]; omega]; simp
      · rw [if_neg (by omega), show isDig c = true by simp [isDig]; omega, Bool.true_and]
        exact ih k (i + 1) (by omega) (by omega)
theorem rdigits_eq (s : ByteArray) (lo hi : Nat) (hs : s.size ≤ 140737488355328) (k : Nat) (hk : s.size < k) : turnstileref6_digits.f k s (lo : Int) (hi : Int) = some (digB (bl s) lo hi) := by
  unfold turnstileref6_digits.f digB
  rw [bl_length]
  exact rdigits_loop s lo hi hs s.size k 0 (by omega) hk
theorem risPIN_eq (s : ByteArray) (hs : s.size ≤ 140737488355328) (k : Nat) (hk : s.size < k) : turnstileref6_isPIN.f k s = some (digB (bl s) 4 12) := by
  unfold turnstileref6_isPIN.f
  rw [show turnstileref6_digits.f k s 4 12 = some (digB (bl s) 4 12) from rdigits_eq s 4 12 hs k hk]
  rfl
theorem risPAN_eq (s : ByteArray) (hs : s.size ≤ 140737488355328) (k : Nat) (hk : s.size < k) : turnstileref6_isPAN.f k s = some (digB (bl s) 13 19) := by
  unfold turnstileref6_isPAN.f
  rw [show turnstileref6_digits.f k s 13 19 = some (digB (bl s) 13 19) from rdigits_eq s 13 19 hs k hk]
  rfl

theorem sixteenth_one (c : UInt8) : turnstileref6_sixteenth.f 1 (c.toNat : Int) = some (Lib.indexByte (bl sgnB) c) := by
  have h : ∀ n : Fin 256, turnstileref6_sixteenth.f 1 ((n.1 : Nat) : Int) = some (Lib.indexByte (bl sgnB) (UInt8.ofNat n.1)) := by decide +kernel
  have := h ⟨c.toNat, c.toNat_lt⟩
  simpa using this
theorem sixteenth_eq (c : UInt8) (k : Nat) (hk : 1 ≤ k) : turnstileref6_sixteenth.f k (c.toNat : Int) = some (Lib.indexByte (bl sgnB) c) :=
  at_rounds (g := fun k => turnstileref6_sixteenth.f k (c.toNat : Int)) (fun k => turnstileref6_sixteenth.mono _ k) hk (sixteenth_one c)

theorem rfilled_loop (a0 : Int) (s : ByteArray) (want : Int) (hs : s.size ≤ 140737488355328) : ∀ (d k i : Nat), i + d = s.size → d + 1 < k →
    turnstileref6_filled.l0 k a0 s want (i : Int) = some (((bl s).drop i).all (okFill a0) && decide ((s.size : Int) = want)) := by
  intro d
  induction d with
  | zero =>
    intro k i hi hk
    obtain ⟨k, rfl⟩ : ∃ m, k = m + 1 := ⟨k - 1, by omega⟩
    rw [turnstileref6_filled.l0.eq_2, if_neg (by omega), List.drop_of_length_le (by rw [bl_length]; omega)]
    simp only [List.all_nil, Bool.true_and]
    rfl
  | succ d ih =>
    intro k i hi hk
    obtain ⟨k, rfl⟩ : ∃ m, k = m + 1 := ⟨k - 1, by omega⟩
    have hl : i < (bl s).length := by rw [bl_length]; omega
    rw [turnstileref6_filled.l0.eq_2, if_pos (by omega), if_pos (by omega), bt_nat, wrap_succ (by omega), drop_getD (bl s) i 0 hl, List.all_cons]
    generalize (bl s).getD i 0 = c
    rw [sixteenth_eq c k (by omega), Option.bind_some]
    rcases index_cases c with ⟨h1, h2, h3⟩ | ⟨h1, h2⟩
    · rw [h2, if_neg (by omega)]
      by_cases h4 : a0 = 3
      · rw [if_pos h4]
        by_cases h5 : nib c < 10
        · rw [if_pos (by omega), show okFill a0 c = false by simp [okFill, h1, h4]; omega]; simp
        · rw [if_neg (by omega), show okFill a0 c = true by simp [okFill, h1]; omega, Bool.true_and]
          exact ih k (i + 1) (by omega) (by omega)
      · rw [if_neg h4, show okFill a0 c = true by simp [okFill, h1, h4], Bool.true_and]
        exact ih k (i + 1) (by omega) (by omega)
    · rw [if_pos h2, show okFill a0 c = false by simp [okFill, h1]]; simp
theorem rfilled_eq (a0 : Int) (s : ByteArray) (want : Int) (hs : s.size ≤ 140737488355328) (k : Nat) (hk : s.size + 1 < k) : turnstileref6_filled.f k a0 s want = some (filledB a0 s want) := by
  unfold turnstileref6_filled.f filledB
  by_cases h : a0 = 0
  · rw [if_pos h, if_pos h, toList_nil]
  · rw [if_neg h, if_neg h]
    exact rfilled_loop a0 s want hs s.size k 0 (by omega) hk

theorem rbytes_loop (l : List Nat) (hl : l.length ≤ 1000000) (hn : ∀ n ∈ l, n < 16) (hev : l.length % 2 = 0) : ∀ (d k i : Nat) (x3 : List Int), 2 * i + 2 * d = l.length → d < k → x3.length = i →
    turnstileref6_bytes.l0 k (natI l) x3 ((2 * i : Nat) : Int) = some (strOfNums (x3 ++ toInts (packL (l.drop (2 * i))))) := by
  intro d
  induction d with
  | zero =>
    intro k i x3 hi hk hx
    obtain ⟨k, rfl⟩ : ∃ m, k = m + 1 := ⟨k - 1, by omega⟩
    rw [turnstileref6_bytes.l0.eq_2, wrap_succ (by omega), if_neg (by rw [natI_length]; omega), List.drop_of_length_le (by omega)]
    simp [packL, toInts]
  | succ d ih =>
    intro k i x3 hi hk hx
    obtain ⟨k, rfl⟩ : ∃ m, k = m + 1 := ⟨k - 1, by omega⟩
    have h1 : 2 * i + 1 < l.length := by omega
    have na := hn _ (getD_mem l (2 * i) 0 (by omega))
    have nb := hn _ (getD_mem l (2 * i + 1) 0 (by omega))
    have e2 : wrap64 (((2 * i : Nat) : Int) + 2) = ((2 * (i + 1) : Nat) : Int) := by rw [wrap_in (by omega) (by omega)]; omega
    have ev : (wrap64 (wrap64 (16 * ((l.getD (2 * i) 0 : Nat) : Int)) + ((l.getD (2 * i + 1) 0 : Nat) : Int))) % 256 = ((byteOf (l.getD (2 * i) 0) (l.getD (2 * i + 1) 0)).toNat : Int) := by
      rw [byteOf_int _ _ na nb, wrap_in (x := 16 * _) (by omega) (by omega), wrap_in (by omega) (by omega)]
      omega
    rw [turnstileref6_bytes.l0.eq_2, wrap_succ (by omega), if_pos (by rw [natI_length]; omega), if_pos (by omega), if_pos (by rw [natI_length]; omega), if_pos (by omega), if_pos (by omega), rd_natI, rd_natI, ev, e2, packL_drop l i h1]
    rw [ih k (i + 1) _ (by omega) (by omega) (by simp [hx])]
    simp only [toInts, List.map_cons, List.append_assoc, List.singleton_append]
theorem rbytes_eq (l : List Nat) (hl : l.length ≤ 1000000) (hn : ∀ n ∈ l, n < 16) (hev : l.length % 2 = 0) (k : Nat) (hk : l.length < k) : turnstileref6_bytes.f k (natI l) = some ⟨(packL l).toArray⟩ := by
  unfold turnstileref6_bytes.f
  have := rbytes_loop l hl hn hev (l.length / 2) k 0 [] (by omega) (by omega) rfl
  rw [show ((2 * 0 : Nat) : Int) = 0 from rfl] at this
  rw [this]
  simp [strOfNums_toInts]

theorem rhalves_loop (s : ByteArray) (hs : s.size ≤ 1000) : ∀ (d k i : Nat) (x3 : List Int), i + d = s.size → d < k → x3.length = 2 * i →
    turnstileref6_halves.l0 k s x3 (i : Int) = some (x3 ++ natI (halvesN ((bl s).drop i))) := by
  intro d
  induction d with
  | zero =>
    intro k i x3 hi hk hx
    obtain ⟨k, rfl⟩ : ∃ m, k = m + 1 := ⟨k - 1, by omega⟩
    rw [turnstileref6_halves.l0.eq_2, if_neg (by omega), List.drop_of_length_le (by rw [bl_length]; omega)]
    simp [halvesN, natI]
  | succ d ih =>
    intro k i x3 hi hk hx
    obtain ⟨k, rfl⟩ : ∃ m, k = m + 1 := ⟨k - 1, by omega⟩
    rw [turnstileref6_halves.l0.eq_2, if_pos (by omega), if_pos (by omega), bt_nat, drop_getD (bl s) i 0 (by rw [bl_length]; omega), wrap_succ (by omega)]
    generalize (bl s).getD i 0 = c
    have hc := c.toNat_lt
    have e1 : wrap64 (Int.tdiv (wrap64 ((c.toNat : Nat) : Int)) 16) = ((c.toNat / 16 : Nat) : Int) := by
      rw [wrap_in (x := ((c.toNat : Nat) : Int)) (by omega) (by omega), Int.tdiv_eq_ediv_of_nonneg (by omega), wrap_in (by omega) (by omega)]
      omega
    have e2 : Int.tmod (wrap64 ((c.toNat : Nat) : Int)) 16 = ((c.toNat % 16 : Nat) : Int) := by
      rw [wrap_in (by omega) (by omega), Int.tmod_eq_emod_of_nonneg (by omega)]
      omega
    rw [e1, e2, Option.bind_some, if_pos (by simp; omega), ih k (i + 1) _ (by omega) (by omega) (by simp; omega)]
    simp [halvesN, natI]
theorem rhalves_eq (s : ByteArray) (hs : s.size ≤ 1000) (k : Nat) (hk : s.size < k) : turnstileref6_halves.f k s = some (natI (halvesN (bl s))) := by
  unfold turnstileref6_halves.f
  have := rhalves_loop s hs s.size k 0 [] (by omega) hk rfl
  simpa using this

end Go.Proofs.YtkjjdodnkcmeiaaGreatDoor.PX
