/- Plain laws of the reference's functions of chapter 6 that Block uses: known, digits, sixteenth, filled, bytes, beside, mixed. -/
import Derived.Test.YtkjjdodnkcmeiaaDoorPur1
import Derived.Test.YtkjjdodnkcmeiaaDoorPX8
import Derived.Test.YtkjjdodnkcmeiaaDoorPX6
namespace Go.Proofs.YtkjjdodnkcmeiaaDoor.PX
open Go.RowKit Go.Proofs.YtkjjdodnkcmeiaaDoorW.PrintWords Go.Proofs.YtkjjdodnkcmeiaaDoorW.PrintLast Go.Proofs.YtkjjdodnkcmeiaaDoorW.PrintMore

def knownB (a : Int) : Bool := decide (a = 0 ∨ a = 1 ∨ a = 3)
theorem rknown_eq (a : Int) : turnstileref6_known.f a = some (knownB a) := by
  unfold turnstileref6_known.f knownB
  by_cases h0 : a = 0
  · rw [if_pos h0]; simp [h0]
  · rw [if_neg h0]
    by_cases h1 : a = 1
    · rw [if_pos h1]; simp [h1]
    · rw [if_neg h1]; by_cases h3 : a = 3 <;> simp [h0, h1, h3]

theorem getD_mem {α : Type} (l : List α) (i : Nat) (d : α) (h : i < l.length) : l.getD i d ∈ l := by
  rw [List.getD_eq_getElem?_getD, List.getElem?_eq_getElem h]
  exact List.getElem_mem _
theorem drop_getD {α : Type} (l : List α) (i : Nat) (d : α) (h : i < l.length) : l.drop i = l.getD i d :: l.drop (i + 1) := by
  rw [List.getD_eq_getElem?_getD, List.getElem?_eq_getElem h]
  exact List.drop_eq_getElem_cons h
theorem wrap_succ {i : Nat} (h : i ≤ 140737488355328) : wrap64 ((i : Int) + 1) = ((i + 1 : Nat) : Int) := by rw [wrap_in (by omega) (by omega)]; omega

theorem rdigits_loop (s : ByteArray) (lo hi : Nat) (hs : s.size ≤ 140737488355328) : ∀ (d k i : Nat), i + d = s.size → d < k →
    turnstileref6_digits.l0 k s (lo : Int) (hi : Int) (i : Int) = some (((bl s).drop i).all isDig && decide (lo ≤ s.size) && decide (s.size ≤ hi)) := by
  intro d
  induction d with
  | zero =>
    intro k i hi' hk
    obtain ⟨k, rfl⟩ : ∃ m, k = m + 1 := ⟨k - 1, by omega⟩
    rw [turnstileref6_digits.l0.eq_2, if_neg (by omega), List.drop_of_length_le (by rw [bl_length]; omega)]
    by_cases h : lo ≤ s.size
    · rw [if_pos (by omega)]; simp [h, Int.ofNat_le]
    · rw [if_neg (by omega)]; simp [h]
  | succ d ih =>
    intro k i hi' hk
    obtain ⟨k, rfl⟩ : ∃ m, k = m + 1 := ⟨k - 1, by omega⟩
    have hl : i < (bl s).length := by rw [bl_length]; omega
    rw [turnstileref6_digits.l0.eq_2, if_pos (by omega), if_pos (by omega), bt_nat, wrap_succ (by omega), drop_getD (bl s) i 0 hl, List.all_cons]
    generalize (bl s).getD i 0 = c
    by_cases h1 : c.toNat < 48
    · rw [if_pos (by omega), show isDig c = false by simp [isDig]; omega]; simp
    · rw [if_neg (by omega)]
      by_cases h2 : 57 < c.toNat
      · rw [if_pos (by omega), show isDig c = false by simp [isDig]; omega]; simp
      · rw [if_neg (by omega), show isDig c = true by simp [isDig]; omega, Bool.true_and]
        exact ih k (i + 1) (by omega) (by omega)
theorem rdigits_eq (s : ByteArray) (lo hi : Nat) (hs : s.size ≤ 140737488355328) (k : Nat) (hk : s.size < k) : turnstileref6_digits.f k s (lo : Int) (hi : Int) = some (digB (bl s) lo hi) := by
  unfold turnstileref6_digits.f digB
  rw [bl_length]
  exact rdigits_loop s lo hi hs s.size k 0 (by omega) hk
theorem risPIN_eq (s : ByteArray) (hs : s.size ≤ 140737488355328) (k : Nat) (hk : s.size < k) : turnstileref6_isPIN.f k s = some (digB (bl s) 4 12) := by
  unfold turnstileref6_isPIN.f
  rw [show turnstileref6_digits.f k s 4 12 = some (digB (bl s) 4 12) from rdigits_eq s 4 12 hs k hk]
  rfl
theorem risPAN_eq (s : ByteArray) (hs : s.size ≤ 140737488355328) (k : Nat) (hk : s.size < k) : turnstileref6_isPAN.f k s = some (digB (bl s) 13 19) := by
  unfold turnstileref6_isPAN.f
  rw [show turnstileref6_digits.f k s 13 19 = some (digB (bl s) 13 19) from rdigits_eq s 13 19 hs k hk]
  rfl

theorem sixteenth_one (c : UInt8) : turnstileref6_sixteenth.f 1 (c.toNat : Int) = some (Lib.indexByte (bl sgnB) c) := by
  have h : ∀ n : Fin 256, turnstileref6_sixteenth.f 1 ((n.1 : Nat) : Int) = some (Lib.indexByte (bl sgnB) (UInt8.ofNat n.1)) := by decide +kernel
  have := h ⟨c.toNat, c.toNat_lt⟩
  simpa using this
theorem sixteenth_eq (c : UInt8) (k : Nat) (hk : 1 ≤ k) : turnstileref6_sixteenth.f k (c.toNat : Int) = some (Lib.indexByte (bl sgnB) c) :=
  at_rounds (g := fun k => turnstileref6_sixteenth.f k (c.toNat : Int)) (fun k => turnstileref6_sixteenth.mono _ k) hk (sixteenth_one c)

/-- May a character stand in a filling of that format? -/
def okFill (a0 : Int) (c : UInt8) : Bool := isSgn c && (decide (a0 ≠ 3) || decide (10 ≤ nib c))
theorem index_cases (c : UInt8) : (isSgn c = true ∧ Lib.indexByte (bl sgnB) c = (nib c : Int) ∧ nib c < 16) ∨ (isSgn c = false ∧ Lib.indexByte (bl sgnB) c < 0) := by
  cases h : isSgn c with
  | true => exact .inl ⟨rfl, (nib_lt c h).2, (nib_lt c h).1⟩
  | false => exact .inr ⟨rfl, (index_neg _ _).2 (by unfold isSgn at h; rw [h]; simp)⟩
theorem rfilled_loop (a0 : Int) (s : ByteArray) (want : Int) (hs : s.size ≤ 140737488355328) : ∀ (d k i : Nat), i + d = s.size → d + 1 < k →
    turnstileref6_filled.l0 k a0 s want (i : Int) = some (((bl s).drop i).all (okFill a0) && decide ((s.size : Int) = want)) := by
  intro d
  induction d with
  | zero =>
    intro k i hi hk
    obtain ⟨k, rfl⟩ : ∃ m, k = m + 1 := ⟨k - 1, by omega⟩
    rw [turnstileref6_filled.l0.eq_2, if_neg (by omega), List.drop_of_length_le (by rw [bl_length]; omega)]
    simp only [List.all_nil, Bool.true_and]
    rfl
  | succ d ih =>
    intro k i hi hk
    obtain ⟨k, rfl⟩ : ∃ m, k = m + 1 := ⟨k - 1, by omega⟩
    have hl : i < (bl s).length := by rw [bl_length]; omega
    rw [turnstileref6_filled.l0.eq_2, if_pos (by omega), if_pos (by omega), bt_nat, wrap_succ (by omega), drop_getD (bl s) i 0 hl, List.all_cons]
    generalize (bl s).getD i 0 = c
    rw [sixteenth_eq c k (by omega), Option.bind_some]
    rcases index_cases c with ⟨h1, h2, h3⟩ | ⟨h1, h2⟩
    · rw [h2, if_neg (by omega)]
      by_cases h4 : a0 = 3
      · rw [if_pos h4]
        by_cases h5 : nib c < 10
        · rw [if_pos (by omega), show okFill a0 c = false by simp [okFill, h1, h4]; omega]; simp
        · rw [if_neg (by omega), show okFill a0 c = true by simp [okFill, h1]; omega, Bool.true_and]
          exact ih k (i + 1) (by omega) (by omega)
      · rw [if_neg h4, show okFill a0 c = true by simp [okFill, h1, h4], Bool.true_and]
        exact ih k (i + 1) (by omega) (by omega)
    · rw [if_pos h2, show okFill a0 c = false by simp [okFill, h1]]; simp
def filledB (a0 : Int) (s : ByteArray) (want : Int) : Bool := if a0 = 0 then decide (s.size = 0) else (bl s).all (okFill a0) && decide ((s.size : Int) = want)
theorem toList_nil (a : ByteArray) : (a.toList == ([] : List UInt8)) = decide (a.size = 0) := by
  rw [ByteArray.toList_eq, show a.data.toList = bl a from rfl, ← bl_length]
  cases bl a with
  | nil => rfl
  | cons x l => simp
theorem rfilled_eq (a0 : Int) (s : ByteArray) (want : Int) (hs : s.size ≤ 140737488355328) (k : Nat) (hk : s.size + 1 < k) : turnstileref6_filled.f k a0 s want = some (filledB a0 s want) := by
  unfold turnstileref6_filled.f filledB
  by_cases h : a0 = 0
  · rw [if_pos h, if_pos h, toList_nil]
  · rw [if_neg h, if_neg h]
    exact rfilled_loop a0 s want hs s.size k 0 (by omega) hk

/-! ### bytes of sixteenths -/
def natI (l : List Nat) : List Int := l.map fun (n : Nat) => (n : Int)
theorem natI_length (l : List Nat) : (natI l).length = l.length := by simp [natI]
theorem rd_natI (l : List Nat) (i : Nat) : rd (natI l) (i : Int) = ((l.getD i 0 : Nat) : Int) := by
  unfold rd natI
  rw [Int.toNat_natCast, List.getD_eq_getElem?_getD, List.getElem?_map, List.getD_eq_getElem?_getD]
  cases l[i]? <;> rfl
theorem packL_drop : ∀ (l : List Nat) (i : Nat), 2 * i + 1 < l.length → packL (l.drop (2 * i)) = byteOf (l.getD (2 * i) 0) (l.getD (2 * i + 1) 0) :: packL (l.drop (2 * (i + 1)))
  | [], i, h => by simp at h
  | [a], i, h => by simp at h
  | a :: b :: l, 0, h => by simp [packL]
  | a :: b :: l, i + 1, h => by
    have := packL_drop l i (by simp at h; omega)
    rw [show 2 * (i + 1) = 2 * i + 1 + 1 by omega, show 2 * (i + 1 + 1) = 2 * (i + 1) + 1 + 1 by omega]
    simp only [List.drop_succ_cons, List.getD_cons_succ]
    exact this
theorem rbytes_loop (l : List Nat) (hl : l.length ≤ 1000000) (hn : ∀ n ∈ l, n < 16) (hev : l.length % 2 = 0) : ∀ (d k i : Nat) (x3 : List Int), 2 * i + 2 * d = l.length → d < k → x3.length = i →
    turnstileref6_bytes.l0 k (natI l) x3 ((2 * i : Nat) : Int) = some (strOfNums (x3 ++ toInts (packL (l.drop (2 * i))))) := by
  intro d
  induction d with
  | zero =>
    intro k i x3 hi hk hx
    obtain ⟨k, rfl⟩ : ∃ m, k = m + 1 := ⟨k - 1, by omega⟩
    rw [turnstileref6_bytes.l0.eq_2, wrap_succ (by omega), if_neg (by rw [natI_length]; omega), List.drop_of_length_le (by omega)]
    simp [packL, toInts]
  | succ d ih =>
    intro k i x3 hi hk hx
    obtain ⟨k, rfl⟩ : ∃ m, k = m + 1 := ⟨k - 1, by omega⟩
    have h1 : 2 * i + 1 < l.length := by omega
    have na := hn _ (getD_mem l (2 * i) 0 (by omega))
    have nb := hn _ (getD_mem l (2 * i + 1) 0 (by omega))
    have e2 : wrap64 (((2 * i : Nat) : Int) + 2) = ((2 * (i + 1) : Nat) : Int) := by rw [wrap_in (by omega) (by omega)]; omega
    have ev : (wrap64 (wrap64 (16 * ((l.getD (2 * i) 0 : Nat) : Int)) + ((l.getD (2 * i + 1) 0 : Nat) : Int))) % 256 = ((byteOf (l.getD (2 * i) 0) (l.getD (2 * i + 1) 0)).toNat : Int) := by
      rw [byteOf_int _ _ na nb, wrap_in (x := 16 * _) (by omega) (by omega), wrap_in (by omega) (by omega)]
      omega
    rw [turnstileref6_bytes.l0.eq_2, wrap_succ (by omega), if_pos (by rw [natI_length]; omega), if_pos (by omega), if_pos (by rw [natI_length]; omega), if_pos (by omega), if_pos (by omega), rd_natI, rd_natI, ev, e2, packL_drop l i h1]
    rw [ih k (i + 1) _ (by omega) (by omega) (by simp [hx])]
    simp only [toInts, List.map_cons, List.append_assoc, List.singleton_append]
theorem rbytes_eq (l : List Nat) (hl : l.length ≤ 1000000) (hn : ∀ n ∈ l, n < 16) (hev : l.length % 2 = 0) (k : Nat) (hk : l.length < k) : turnstileref6_bytes.f k (natI l) = some ⟨(packL l).toArray⟩ := by
  unfold turnstileref6_bytes.f
  have := rbytes_loop l hl hn hev (l.length / 2) k 0 [] (by omega) (by omega) rfl
  rw [show ((2 * 0 : Nat) : Int) = 0 from rfl] at this
  rw [this]
  simp [strOfNums_toInts]

/-! ### the PAN's block, and the sum with it -/
theorem nib_dig (c : UInt8) (h : isDig c = true) : nib c = c.toNat - 48 ∧ 48 ≤ c.toNat ∧ nib c < 10 := by
  have hh : ∀ n : Fin 256, isDig (UInt8.ofNat n.1) = true → nib (UInt8.ofNat n.1) = (UInt8.ofNat n.1).toNat - 48 ∧ 48 ≤ (UInt8.ofNat n.1).toNat ∧ nib (UInt8.ofNat n.1) < 10 := by decide +kernel
  have := hh ⟨c.toNat, c.toNat_lt⟩
  simp only [UInt8.ofNat_toNat] at this
  exact this h
theorem dig_val (c : UInt8) (h : isDig c = true) : wrap64 (wrap64 ((c.toNat : Nat) : Int) - 48) = ((nib c : Nat) : Int) := by
  obtain ⟨h1, h2, _⟩ := nib_dig c h
  have := c.toNat_lt
  rw [wrap_in (x := ((c.toNat : Nat) : Int)) (by omega) (by omega), wrap_in (by omega) (by omega)]
  omega
theorem rbeside_loop (s : ByteArray) (hs : s.size ≤ 1000) (hd : ∀ c ∈ bl s, isDig c = true) (h13 : 13 ≤ s.size) : ∀ (d k i : Nat) (x3 : List Int), i + d = s.size - 1 → d < k → x3.length + d ≤ 100 →
    turnstileref6_beside.l0 k s x3 (i : Int) = some (x3 ++ natI (((bl s).drop i).take d |>.map nib)) := by
  intro d
  induction d with
  | zero =>
    intro k i x3 hi hk hx
    obtain ⟨k, rfl⟩ : ∃ m, k = m + 1 := ⟨k - 1, by omega⟩
    have e : wrap64 ((s.size : Int) - 1) = ((s.size - 1 : Nat) : Int) := by rw [wrap_in (by omega) (by omega)]; omega
    rw [turnstileref6_beside.l0.eq_2, e, if_neg (by omega)]
    simp [natI]
  | succ d ih =>
    intro k i x3 hi hk hx
    obtain ⟨k, rfl⟩ : ∃ m, k = m + 1 := ⟨k - 1, by omega⟩
    have e : wrap64 ((s.size : Int) - 1) = ((s.size - 1 : Nat) : Int) := by rw [wrap_in (by omega) (by omega)]; omega
    have hc := hd _ (getD_mem (bl s) i 0 (by rw [bl_length]; omega))
    rw [turnstileref6_beside.l0.eq_2, e, if_pos (by omega), if_pos (by omega), if_pos (by omega), if_pos (by omega), bt_nat, dig_val _ hc, wrap_succ (by omega)]
    rw [ih k (i + 1) _ (by omega) (by omega) (by simp; omega), drop_getD (bl s) i 0 (by rw [bl_length]; omega), List.take_succ_cons]
    simp [natI]
theorem rbeside_eq (s : ByteArray) (h : digB (bl s) 13 19 = true) (k : Nat) (hk : 12 < k) : turnstileref6_beside.f k s = some (natI (panL (bl s))) := by
  obtain ⟨l1, l2, l3⟩ := digB_len h
  rw [bl_length] at l1 l2
  unfold turnstileref6_beside.f
  have e : wrap64 ((s.size : Int) - 13) = ((s.size - 13 : Nat) : Int) := by rw [wrap_in (by omega) (by omega)]; omega
  rw [e, rbeside_loop s (by omega) l3 l1 12 k (s.size - 13) _ (by omega) hk (by simp)]
  unfold panL
  rw [bl_length]
  simp [natI]
theorem xor_small (a b : Nat) (ha : a < 16) (hb : b < 16) : Go.bits .xor .i64 (a : Int) (b : Int) = ((a ^^^ b : Nat) : Int) := by
  have h : ∀ (a b : Fin 16), Go.bits .xor .i64 ((a.1 : Nat) : Int) ((b.1 : Nat) : Int) = ((a.1 ^^^ b.1 : Nat) : Int) := by decide +kernel
  exact h ⟨a, ha⟩ ⟨b, hb⟩
def xorN (a b : List Nat) : List Nat := List.zipWith (· ^^^ ·) a b
theorem rmixed_loop (l p : List Nat) (hl : l.length ≤ 1000) (hp : l.length ≤ p.length) (h1 : ∀ n ∈ l, n < 16) (h2 : ∀ n ∈ p, n < 16) : ∀ (d k i : Nat) (x8 : List Int), i + d = l.length → d < k → x8.length + d ≤ 1000 →
    turnstileref6_mixed.l0 k (natI l) (natI p) x8 (i : Int) = some (x8 ++ natI (xorN (l.drop i) (p.drop i))) := by
  intro d
  induction d with
  | zero =>
    intro k i x8 hi hk hx
    obtain ⟨k, rfl⟩ : ∃ m, k = m + 1 := ⟨k - 1, by omega⟩
    rw [turnstileref6_mixed.l0.eq_2, if_neg (by rw [natI_length]; omega), List.drop_of_length_le (by omega)]
    simp [natI, xorN]
  | succ d ih =>
    intro k i x8 hi hk hx
    obtain ⟨k, rfl⟩ : ∃ m, k = m + 1 := ⟨k - 1, by omega⟩
    rw [turnstileref6_mixed.l0.eq_2, if_pos (by rw [natI_length]; omega), if_pos (by omega), if_pos (by rw [natI_length]; omega), if_pos (by omega), rd_natI, rd_natI,
      xor_small _ _ (h1 _ (getD_mem l i 0 (by omega))) (h2 _ (getD_mem p i 0 (by omega))), wrap_succ (by omega)]
    rw [ih k (i + 1) _ (by omega) (by omega) (by simp; omega), drop_getD l i 0 (by omega), drop_getD p i 0 (by omega)]
    simp [natI, xorN]
theorem panL_ok (pan : List UInt8) (h : digB pan 13 19 = true) : (panL pan).length = 16 ∧ ∀ n ∈ panL pan, n < 16 := by
  obtain ⟨l1, l2, l3⟩ := digB_len h
  unfold panL
  refine ⟨by simp; omega, fun n hn => ?_⟩
  rcases List.mem_append.1 hn with hn | hn
  · simp at hn; omega
  · obtain ⟨c, hc, rfl⟩ := List.mem_map.1 hn
    have := (nib_dig c (l3 c (List.mem_of_mem_drop (List.mem_of_mem_take hc)))).2.2
    omega
theorem rmixed_eq (a0 : Int) (l : List Nat) (s : ByteArray) (hl : l.length = 16) (h1 : ∀ n ∈ l, n < 16) (hs : a0 ≠ 1 → digB (bl s) 13 19 = true) (k : Nat) (hk : 16 < k) :
    turnstileref6_mixed.f k a0 (natI l) s = some (natI (if a0 = 1 then l else xorN l (panL (bl s)))) := by
  unfold turnstileref6_mixed.f
  by_cases h : a0 = 1
  · rw [if_pos h, if_pos h]
  · obtain ⟨p1, p2⟩ := panL_ok _ (hs h)
    rw [if_neg h, if_neg h, rbeside_eq s (hs h) k (by omega), Option.bind_some]
    have := rmixed_loop l (panL (bl s)) (by omega) (by omega) h1 p2 16 k 0 [] (by omega) hk (by simp)
    simpa using this
end Go.Proofs.YtkjjdodnkcmeiaaDoor.PX
