/- Plain laws of the printed functions within, isPIN, isPAN, joined, packed, summed: what each answers, on lists of bytes. -/
import Derived.Lib.IndexAny
import Derived.Test.YtkjjdodnkcmeiaaGreatDoorPX4
namespace Go.Proofs.YtkjjdodnkcmeiaaGreatDoor.PX
open Go.RowKit Go.Proofs.YtkjjdodnkcmeiaaGreatDoorW.PrintWords Go.Proofs.YtkjjdodnkcmeiaaGreatDoorW.PrintLast Go.Proofs.YtkjjdodnkcmeiaaGreatDoorW.PrintMore

/-- The bytes of a text, as a list. -/
def bl (s : ByteArray) : List UInt8 := s.data.toList
theorem bl_length (s : ByteArray) : (bl s).length = s.size := by simp [bl]
theorem bl_ext {a b : ByteArray} (h : bl a = bl b) : a = b := by
  cases a; cases b
  simp only [bl] at h
  congr
  exact Array.toList_inj.1 h
theorem mk_bl (s : ByteArray) : (⟨(bl s).toArray⟩ : ByteArray) = s := by cases s; simp [bl]
theorem bl_mk (l : List UInt8) : bl ⟨l.toArray⟩ = l := rfl
theorem size_mk (l : List UInt8) : (⟨l.toArray⟩ : ByteArray).size = l.length := by simp [ByteArray.size]
theorem bt_nat (s : ByteArray) (i : Nat) : bt s (i : Int) = (((bl s).getD i 0).toNat : Int) := by
  unfold bt
  split
  · rename_i h
    rw [Int.toNat_natCast] at h
    rw [show (bl s).getD i 0 = s[i] from getD_data s i h]
    rfl
  · rename_i h
    rw [Int.toNat_natCast] at h
    rw [List.getD_eq_getElem?_getD, List.getElem?_eq_none (by rw [bl_length]; omega)]
    rfl
theorem u8_back (c : UInt8) : ((c.toNat : Int)).toNat.toUInt8 = c := by simp
theorem wrap_in {x : Int} (h0 : -9223372036854775808 ≤ x) (h1 : x ≤ 9223372036854775807) : wrap64 x = x := by unfold wrap64; omega
theorem index_neg (l : List UInt8) (c : UInt8) : (Lib.indexByte l c < 0) ↔ ¬ l.contains c = true := by
  rw [Lib.contains_iff_indexByte]
  simp

def withinB (s of : List UInt8) (lo hi : Int) : Bool := s.all (fun c => of.contains c) && decide (lo ≤ (s.length : Int)) && decide ((s.length : Int) ≤ hi)
theorem within_loop (s of : ByteArray) (lo hi : Int) (hs : s.size ≤ 140737488355328) : ∀ (d k i : Nat), i + d = s.size → d < k →
    pin_within.l0 k s of lo hi (s.size : Int) (i : Int) = some (((bl s).drop i).all (fun c => (bl of).contains c) && decide (lo ≤ (s.size : Int)) && decide ((s.size : Int) ≤ hi)) := by
  intro d
  induction d with
  | zero =>
    intro k i hi hk
    obtain ⟨k, rfl⟩ : ∃ m, k = m + 1 := ⟨k - 1, by omega⟩
    simp only [pin_within.l0]
    rw [if_neg (by omega), List.drop_of_length_le (by rw [bl_length]; omega)]
    by_cases h : lo ≤ (s.size : Int)
    · rw [if_pos h]; simp [h]
    · rw [if_neg h]; simp [h]
  | succ d ih =>
    intro k i hi hk
    obtain ⟨k, rfl⟩ : ∃ m, k = m + 1 := ⟨k - 1, by omega⟩
    have hlt : i < s.size := by omega
    simp only [pin_within.l0]
    rw [if_pos (by omega), if_pos (by omega), if_pos (by omega), bt_nat]
    simp only [strings_IndexByte.f, Option.bind_some, u8_back]
    rw [wrap_in (by omega) (by omega), show of.data.toList = bl of from rfl]
    have hl : i < (bl s).length := by rw [bl_length]; exact hlt
    have hd : (bl s).drop i = (bl s).getD i 0 :: (bl s).drop (i + 1) := by
      rw [List.getD_eq_getElem?_getD, List.getElem?_eq_getElem hl]
      exact (List.drop_eq_getElem_cons hl)
    rw [hd, List.all_cons]
    by_cases hc : Lib.indexByte (bl of) ((bl s).getD i 0) < 0
    · have hc' := (index_neg _ _).1 hc
      rw [if_pos hc]
      simp only [Bool.not_eq_true] at hc'
      rw [hc']
      simp
    · have hc' : (bl of).contains ((bl s).getD i 0) = true := by
        have := mt (index_neg (bl of) ((bl s).getD i 0)).2 hc
        simpa using this
      rw [if_neg hc, hc', Bool.true_and]
      have := ih k (i + 1) (by omega) (by omega)
      rw [← this]
      norm_cast
theorem within_eq (s of : ByteArray) (lo hi : Int) (hs : s.size ≤ 140737488355328) (k : Nat) (hk : s.size < k) : pin_within.f k s of lo hi = some (withinB (bl s) (bl of) lo hi) := by
  unfold pin_within.f withinB
  have := within_loop s of lo hi hs s.size k 0 (by omega) hk
  rw [bl_length]
  simpa using this

/-! ### isPIN, isPAN -/
def isDig (c : UInt8) : Bool := decide (48 ≤ c.toNat) && decide (c.toNat ≤ 57)
def digB (l : List UInt8) (lo hi : Nat) : Bool := l.all isDig && decide (lo ≤ l.length) && decide (l.length ≤ hi)
def sgnB : ByteArray := ⟨#[48, 49, 50, 51, 52, 53, 54, 55, 56, 57, 65, 66, 67, 68, 69, 70]⟩
theorem ten_bl : bl (sgnB.extract 0 10) = [48, 49, 50, 51, 52, 53, 54, 55, 56, 57] := by decide
theorem ten_has (c : UInt8) : ([48, 49, 50, 51, 52, 53, 54, 55, 56, 57] : List UInt8).contains c = isDig c := by
  revert c
  have h : ∀ n : Fin 256, ([48, 49, 50, 51, 52, 53, 54, 55, 56, 57] : List UInt8).contains (UInt8.ofNat n.1) = isDig (UInt8.ofNat n.1) := by decide +kernel
  intro c
  have := h ⟨c.toNat, c.toNat_lt⟩
  simpa using this
theorem within_ten (l : List UInt8) (lo hi : Nat) : withinB l (bl (sgnB.extract 0 10)) lo hi = digB l lo hi := by
  rw [ten_bl]
  unfold withinB digB
  simp only [ten_has, Int.ofNat_le]
theorem isPIN_eq (s : ByteArray) (hs : s.size ≤ 140737488355328) (k : Nat) (hk : s.size < k) : pin_isPIN.f k s = some (digB (bl s) 4 12) := by
  unfold pin_isPIN.f
  rw [if_pos (by decide), if_pos (by decide)]
  rw [show (⟨#[48, 49, 50, 51, 52, 53, 54, 55, 56, 57, 65, 66, 67, 68, 69, 70]⟩ : ByteArray) = sgnB from rfl, within_eq s _ _ _ hs k hk]
  exact congrArg some (within_ten _ 4 12)
theorem isPAN_eq (s : ByteArray) (hs : s.size ≤ 140737488355328) (k : Nat) (hk : s.size < k) : pin_isPAN.f k s = some (digB (bl s) 13 19) := by
  unfold pin_isPAN.f
  rw [if_pos (by decide), if_pos (by decide)]
  rw [show (⟨#[48, 49, 50, 51, 52, 53, 54, 55, 56, 57, 65, 66, 67, 68, 69, 70]⟩ : ByteArray) = sgnB from rfl, within_eq s _ _ _ hs k hk]
  exact congrArg some (within_ten _ 13 19)

/-! ### joined -/
theorem joined_eq (l : List ByteArray) (h1 : l.length ≤ 140737488355328) (h2 : (l.map bl).flatten.length ≤ 140737488355328) : pin_joined.f l = some ⟨(l.map bl).flatten.toArray⟩ := by
  have hj : joinB l ⟨#[]⟩ = (l.map bl).flatten := by
    unfold joinB Lib.join
    show ([] : List UInt8).intercalate (l.map bl) = _
    clear h1 h2
    generalize l.map bl = m
    induction m with
    | nil => rfl
    | cons a m ih =>
      cases m with
      | nil => simp [List.intercalate]
      | cons b m => simp only [List.intercalate, List.intersperse_cons_cons] at ih ⊢; simp only [List.flatten_cons, List.nil_append] at ih ⊢; rw [ih]
  unfold pin_joined.f strings_Join.f
  rw [hj, if_pos ⟨h1, h2⟩]
  rfl

/-! ### packed -/
/-- What a character says: its place among the sixteen signs (anything, if it is none of them). -/
def nib (c : UInt8) : Nat := (Lib.indexByte (bl sgnB) c).toNat
def isSgn (c : UInt8) : Bool := (bl sgnB).contains c
def byteOf (a b : Nat) : UInt8 := UInt8.ofNat (16 * a + b)
def packL : List Nat → List UInt8
  | a :: b :: l => byteOf a b :: packL l
  | _ => []
theorem packL_get : ∀ (l : List Nat) (i : Nat), 2 * i + 1 < l.length → (packL l)[i]? = some (byteOf (l.getD (2 * i) 0) (l.getD (2 * i + 1) 0))
  | [], i, h => by simp at h
  | [a], i, h => by simp at h
  | a :: b :: l, 0, h => by simp [packL]
  | a :: b :: l, i + 1, h => by
    simp only [packL, List.getElem?_cons_succ]
    rw [packL_get l i (by simp at h; omega)]
    simp [Nat.mul_add]
theorem packL_length : ∀ l : List Nat, (packL l).length = l.length / 2
  | [] => rfl
  | [_] => by simp [packL]
  | a :: b :: l => by simp [packL, packL_length l]; omega
theorem nib_lt (c : UInt8) (h : isSgn c = true) : nib c < 16 ∧ Lib.indexByte (bl sgnB) c = (nib c : Int) := by
  have hh : ∀ n : Fin 256, isSgn (UInt8.ofNat n.1) = true → nib (UInt8.ofNat n.1) < 16 ∧ Lib.indexByte (bl sgnB) (UInt8.ofNat n.1) = (nib (UInt8.ofNat n.1) : Int) := by decide +kernel
  have := hh ⟨c.toNat, c.toNat_lt⟩
  simp only [UInt8.ofNat_toNat] at this
  exact this h
theorem or_nibs (a b : Nat) (ha : a < 16) (hb : b < 16) : (Go.bits .or .i64 (wrap64 ((a : Int) * 16)) (b : Int)) % 256 = ((16 * a + b : Nat) : Int) := by
  have h : ∀ (a b : Fin 16), (Go.bits .or .i64 (wrap64 (((a.1 : Nat) : Int) * 16)) ((b.1 : Nat) : Int)) % 256 = ((16 * a.1 + b.1 : Nat) : Int) := by decide +kernel
  exact h ⟨a, ha⟩ ⟨b, hb⟩
def toInts (l : List UInt8) : List Int := l.map fun c => (c.toNat : Int)
theorem strOfNums_toInts (l : List UInt8) : strOfNums (toInts l) = ⟨l.toArray⟩ := strOfNums_bytes l
theorem byteOf_int (a b : Nat) (ha : a < 16) (hb : b < 16) : ((byteOf a b).toNat : Int) = ((16 * a + b : Nat) : Int) := by
  unfold byteOf
  rw [UInt8.toNat_ofNat']
  omega
theorem map_getD (l : List UInt8) (i : Nat) (h : i < l.length) : (l.map nib).getD i 0 = nib (l.getD i 0) := by
  rw [List.getD_eq_getElem?_getD, List.getElem?_map, List.getElem?_eq_getElem h, List.getD_eq_getElem?_getD, List.getElem?_eq_getElem h]
  simp only [Option.map_some, Option.getD_some]
def packV (s : ByteArray) (i : Nat) : UInt8 := byteOf (nib ((bl s).getD (2 * i) 0)) (nib ((bl s).getD (2 * i + 1) 0))
theorem packed_step (s : ByteArray) (hs : s.size ≤ 140737488355328) (hg : ∀ c ∈ bl s, isSgn c = true) (k i : Nat) (x3 : List Int) (hi : i < s.size / 2) (hx : x3.length = s.size / 2) :
    pin_packed.l0 (k + 1) s x3 ((s.size / 2 : Nat) : Int) (i : Int) = pin_packed.l0 k s (x3.set i ((packV s i).toNat : Int)) ((s.size / 2 : Nat) : Int) ((i + 1 : Nat) : Int) := by
  have h0 : 2 * i < s.size := by omega
  have h1 : 2 * i + 1 < s.size := by omega
  have e0 : wrap64 (2 * (i : Int)) = ((2 * i : Nat) : Int) := by rw [wrap_in (by omega) (by omega)]; omega
  have e1 : wrap64 (((2 * i : Nat) : Int) + 1) = ((2 * i + 1 : Nat) : Int) := by rw [wrap_in (by omega) (by omega)]; omega
  have e2 : wrap64 ((i : Int) + 1) = ((i + 1 : Nat) : Int) := by rw [wrap_in (by omega) (by omega)]; omega
  have g0 : isSgn ((bl s).getD (2 * i) 0) = true := hg _ (by rw [List.getD_eq_getElem?_getD, List.getElem?_eq_getElem (by rw [bl_length]; exact h0)]; exact List.getElem_mem _)
  have g1 : isSgn ((bl s).getD (2 * i + 1) 0) = true := hg _ (by rw [List.getD_eq_getElem?_getD, List.getElem?_eq_getElem (by rw [bl_length]; exact h1)]; exact List.getElem_mem _)
  obtain ⟨n0, m0⟩ := nib_lt _ g0
  obtain ⟨n1, m1⟩ := nib_lt _ g1
  have f0 : strings_IndexByte.f sgnB (bt s ((2 * i : Nat) : Int)) = some (nib ((bl s).getD (2 * i) 0) : Int) := by rw [bt_nat]; unfold strings_IndexByte.f; rw [u8_back]; exact congrArg some m0
  have f1 : strings_IndexByte.f sgnB (bt s ((2 * i + 1 : Nat) : Int)) = some (nib ((bl s).getD (2 * i + 1) 0) : Int) := by rw [bt_nat]; unfold strings_IndexByte.f; rw [u8_back]; exact congrArg some m1
  have hv : (Go.bits .or .i64 (wrap64 ((nib ((bl s).getD (2 * i) 0) : Int) * 16)) (nib ((bl s).getD (2 * i + 1) 0) : Int)) % 256 = ((packV s i).toNat : Int) := by
    unfold packV
    rw [or_nibs _ _ n0 n1, byteOf_int _ _ n0 n1]
  clear m0 m1 n0 n1 g0 g1 hg
  generalize nib ((bl s).getD (2 * i) 0) = a at *
  generalize nib ((bl s).getD (2 * i + 1) 0) = b at *
  generalize ((packV s i).toNat : Int) = v at *
  rw [pin_packed.l0.eq_2, if_pos (by omega), e0, if_pos (by omega), if_pos (by omega)]
  rw [show (⟨#[48, 49, 50, 51, 52, 53, 54, 55, 56, 57, 65, 66, 67, 68, 69, 70]⟩ : ByteArray) = sgnB from rfl, f0, Option.bind_some, e1, if_pos (by omega), if_pos (by omega), f1, Option.bind_some, if_pos (by omega), if_pos (by omega), hv, e2, Int.toNat_natCast]
theorem take_set_snoc (x3 : List Int) (i : Nat) (v : Int) (h : i < x3.length) : (x3.set i v).take (i + 1) = x3.take i ++ [v] := by
  rw [List.take_succ_eq_append_getElem (by simpa using h), List.take_set_of_le (Nat.le_refl _)]
  simp
theorem packed_loop (s : ByteArray) (hs : s.size ≤ 140737488355328) (hg : ∀ c ∈ bl s, isSgn c = true) : ∀ (d k i : Nat) (x3 : List Int), i + d = s.size / 2 → d < k → x3.length = s.size / 2 →
    pin_packed.l0 k s x3 ((s.size / 2 : Nat) : Int) (i : Int) = some (strOfNums (x3.take i ++ toInts ((packL ((bl s).map nib)).drop i))) := by
  intro d
  induction d with
  | zero =>
    intro k i x3 hi hk hx
    obtain ⟨k, rfl⟩ : ∃ m, k = m + 1 := ⟨k - 1, by omega⟩
    rw [pin_packed.l0.eq_2, if_neg (by omega), List.take_of_length_le (by omega), List.drop_of_length_le (by rw [packL_length, List.length_map, bl_length]; omega)]
    simp [toInts]
  | succ d ih =>
    intro k i x3 hi hk hx
    obtain ⟨k, rfl⟩ : ∃ m, k = m + 1 := ⟨k - 1, by omega⟩
    rw [packed_step s hs hg k i x3 (by omega) hx, ih k (i + 1) _ (by omega) (by omega) (by rw [List.length_set]; exact hx), take_set_snoc _ _ _ (by omega)]
    have hp : i < (packL ((bl s).map nib)).length := by rw [packL_length, List.length_map, bl_length]; omega
    have hv : (packL ((bl s).map nib))[i] = packV s i := by
      have := packL_get ((bl s).map nib) i (by rw [List.length_map, bl_length]; omega)
      rw [List.getElem?_eq_getElem hp, map_getD _ _ (by rw [bl_length]; omega), map_getD _ _ (by rw [bl_length]; omega)] at this
      exact Option.some.inj this
    rw [List.drop_eq_getElem_cons hp, hv]
    simp only [toInts, List.map_cons, List.append_assoc, List.singleton_append]
theorem packed_eq (s : ByteArray) (hs : s.size ≤ 140737488355328) (hg : ∀ c ∈ bl s, isSgn c = true) (k : Nat) (hk : s.size / 2 < k) : pin_packed.f k s = some ⟨(packL ((bl s).map nib)).toArray⟩ := by
  unfold pin_packed.f
  have e : wrap64 ((s.size : Int) / 2) = ((s.size / 2 : Nat) : Int) := by rw [wrap_in (by omega) (by omega)]; omega
  rw [e, if_pos (by omega), Int.toNat_natCast, if_pos (by omega)]
  simp only [Option.bind_some, List.length_replicate]
  have := packed_loop s hs hg (s.size / 2) k 0 (List.replicate (s.size / 2) 0) (by omega) hk (by simp)
  rw [show ((0 : Nat) : Int) = 0 from rfl] at this
  rw [this]
  simp [strOfNums_toInts]

/-! ### summed -/
def xorB (a b : List UInt8) : List UInt8 := List.zipWith (· ^^^ ·) a b
theorem xorL_eq (a b : ByteArray) (h : a.size = b.size) : xorL a b = xorB (bl a) (bl b) := by
  unfold xorL xorB
  apply List.ext_getElem
  · simp [bl_length, h]
  · intro i h1 h2
    have ha : i < (bl a).length := by rw [bl_length]; simpa using h1
    have hb : i < (bl b).length := by rw [bl_length, ← h]; simpa using h1
    simp only [List.getElem_map, List.getElem_range, List.getElem_zipWith]
    rw [show a.data.toList = bl a from rfl, show b.data.toList = bl b from rfl]
    rw [List.getD_eq_getElem?_getD, List.getD_eq_getElem?_getD, List.getElem?_eq_getElem ha, List.getElem?_eq_getElem hb]
    rfl
/-- The PAN's block: four noughts, and the twelve digits left of the last one. -/
def panL (pan : List UInt8) : List Nat := [0, 0, 0, 0] ++ ((pan.drop (pan.length - 13)).take 12).map nib
theorem bl_extract (s : ByteArray) (i j : Nat) : bl (s.extract i j) = (bl s).extract i j := by simp [bl]
theorem dig_sgn (c : UInt8) (h : isDig c = true) : isSgn c = true := by
  have hh : ∀ n : Fin 256, isDig (UInt8.ofNat n.1) = true → isSgn (UInt8.ofNat n.1) = true := by decide +kernel
  have := hh ⟨c.toNat, c.toNat_lt⟩
  simp only [UInt8.ofNat_toNat] at this
  exact this h
theorem digB_len {l : List UInt8} {lo hi : Nat} (h : digB l lo hi = true) : lo ≤ l.length ∧ l.length ≤ hi ∧ ∀ c ∈ l, isDig c = true := by
  unfold digB at h
  simp only [Bool.and_eq_true, decide_eq_true_eq, List.all_eq_true] at h
  exact ⟨h.1.2, h.2, h.1.1⟩
theorem summed_eq (a0 a1 : ByteArray) (h0 : a0.size = 8) (h1 : digB (bl a1) 13 19 = true) (k : Nat) (hk : 8 < k) :
    pin_summed.f k a0 a1 = some ⟨(xorB (bl a0) (packL (panL (bl a1)))).toArray⟩ := by
  obtain ⟨l1, l2, l3⟩ := digB_len h1
  rw [bl_length] at l1 l2
  have e0 : wrap64 ((a1.size : Int) - 13) = ((a1.size - 13 : Nat) : Int) := by rw [wrap_in (by omega) (by omega)]; omega
  have e1 : wrap64 ((a1.size : Int) - 1) = ((a1.size - 1 : Nat) : Int) := by rw [wrap_in (by omega) (by omega)]; omega
  have hx : (bl a1).extract (a1.size - 13) (a1.size - 1) = ((bl a1).drop (a1.size - 13)).take 12 := by
    rw [List.extract_eq_take_drop, show a1.size - 1 - (a1.size - 13) = 12 by omega]
  have hfl : ([(⟨#[48, 48, 48, 48]⟩ : ByteArray), a1.extract (a1.size - 13) (a1.size - 1)].map bl).flatten = [48, 48, 48, 48] ++ ((bl a1).drop (a1.size - 13)).take 12 := by
    simp only [List.map_cons, List.map_nil, List.flatten_cons, List.flatten_nil, List.append_nil, bl_extract, hx]
    rfl
  have hj := joined_eq [(⟨#[48, 48, 48, 48]⟩ : ByteArray), a1.extract (a1.size - 13) (a1.size - 1)] (by simp) (by rw [hfl]; simp; omega)
  rw [hfl] at hj
  have hp := packed_eq ⟨([48, 48, 48, 48] ++ ((bl a1).drop (a1.size - 13)).take 12).toArray⟩ (by rw [size_mk]; simp; omega) (by
    intro c hc
    rw [bl_mk] at hc
    rcases List.mem_append.1 hc with hc | hc
    · have : c = 48 := by simpa using hc
      subst this
      decide
    · exact dig_sgn c (l3 c (List.mem_of_mem_drop (List.mem_of_mem_take hc)))) k (by rw [size_mk]; simp; omega)
  rw [bl_mk ([48, 48, 48, 48] ++ ((bl a1).drop (a1.size - 13)).take 12)] at hp
  unfold pin_summed.f
  rw [e0, e1, if_pos (by omega), if_pos (by omega), if_pos (by omega), Int.toNat_natCast, Int.toNat_natCast, hj, Option.bind_some, hp, Option.bind_some]
  have hpl : (packL (List.map nib ([48, 48, 48, 48] ++ ((bl a1).drop (a1.size - 13)).take 12))).length = 8 := by
    rw [packL_length, List.length_map, List.length_append, List.length_take, List.length_drop, bl_length]
    simp
    omega
  unfold cipher_Xor.f
  have hsz : a0.size = (⟨(packL (List.map nib ([48, 48, 48, 48] ++ ((bl a1).drop (a1.size - 13)).take 12))).toArray⟩ : ByteArray).size := by rw [size_mk (packL _), hpl]; exact h0
  rw [if_pos hsz, if_pos (by omega), xorL_eq _ _ hsz, bl_mk (packL _)]
  simp only [Option.bind_some]
  congr 4
end Go.Proofs.YtkjjdodnkcmeiaaGreatDoor.PX
