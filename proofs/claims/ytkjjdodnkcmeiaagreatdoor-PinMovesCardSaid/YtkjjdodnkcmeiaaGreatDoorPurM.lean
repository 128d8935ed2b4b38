/- Plain laws of the printed functions of package cipher: what take, number, half, bytes, mixed answer, on natural numbers. -/
import Derived.Test.YtkjjdodnkcmeiaaGreatDoorPur1
import Derived.Laws.BitsAllLaws
import Derived.Test.YtkjjdodnkcmeiaaGreatDoorPX6
import Derived.Test.YtkjjdodnkcmeiaaGreatDoorPX7
namespace Go.Proofs.YtkjjdodnkcmeiaaGreatDoor.PX
open Go.RowKit Go.Proofs.YtkjjdodnkcmeiaaGreatDoorW.PrintWords Go.Proofs.YtkjjdodnkcmeiaaGreatDoorW.PrintLast Go.Proofs.YtkjjdodnkcmeiaaGreatDoorW.PrintMore

def natL (l : List Nat) : List Int := l.map fun (n : Nat) => (n : Int)
theorem rd_natL (l : List Nat) (i : Nat) : rd (natL l) (i : Int) = ((l.getD i 0 : Nat) : Int) := by
  unfold rd natL
  rw [Int.toNat_natCast, List.getD_eq_getElem?_getD, List.getElem?_map, List.getD_eq_getElem?_getD]
  cases l[i]? <;> rfl
theorem natL_length (l : List Nat) : (natL l).length = l.length := by simp [natL]
theorem dropD {α : Type} (l : List α) (i : Nat) (d : α) (h : i < l.length) : l.drop i = l.getD i d :: l.drop (i + 1) := by
  rw [List.getD_eq_getElem?_getD, List.getElem?_eq_getElem h]
  exact List.drop_eq_getElem_cons h
theorem wrap_inc {i : Nat} (h : i ≤ 140737488355328) : wrap64 ((i : Int) + 1) = ((i + 1 : Nat) : Int) := by rw [wrap_in (by omega) (by omega)]; omega
theorem wrapU {n : Nat} (h : n < 18446744073709551616) : IntKind.u64.wrap (n : Int) = (n : Int) := by rw [IntKind.wrap_u64]; omega
theorem or_add (a b i : Nat) (h : b < 2 ^ i) : a * 2 ^ i ||| b = a * 2 ^ i + b := by
  rw [← Nat.shiftLeft_eq, Nat.shiftLeft_add_eq_or_of_lt h]

/-! ### take -/
def takeStep (x wide out n : Nat) : Nat := 2 * out + (x / 2 ^ (wide - n)) % 2
def takeN (tab : List Nat) (x wide : Nat) : Nat := tab.foldl (takeStep x wide) 0
theorem take_bit (x s out : Nat) (hx : x < 18446744073709551616) (hs : s ≤ 64) (ho : out < 9223372036854775808) :
    Go.bits .or .u64 (IntKind.u64.wrap ((out : Int) * 2)) (Go.bits .and .u64 (shr .u64 (x : Int) (s : Int)) 1) = ((2 * out + (x / 2 ^ s) % 2 : Nat) : Int) := by
  have h1 : shr .u64 (x : Int) (s : Int) = ((x / 2 ^ s : Nat) : Int) := by
    unfold shr
    rw [Int.toNat_natCast, Nat.min_eq_left (show s ≤ IntKind.u64.bits from hs)]
    rw [Int.natCast_ediv, Int.natCast_pow]
    rfl
  have hd : x / 2 ^ s < 18446744073709551616 := Nat.lt_of_le_of_lt (Nat.div_le_self _ _) hx
  have h2 : (out : Int) * 2 = ((out * 2 : Nat) : Int) := by omega
  rw [h1, h2, wrapU (by omega), show (1 : Int) = ((1 : Nat) : Int) from rfl, u64_and_nat _ _ hd (by decide), Nat.and_one_is_mod, u64_or_nat _ _ (by omega) (by omega)]
  have := or_add out ((x / 2 ^ s) % 2) 1 (by omega)
  rw [Nat.pow_one] at this
  rw [this]
  omega
theorem take_loop (tab : List Nat) (x wide : Nat) (hx : x < 18446744073709551616) (hw : wide ≤ 64) (hl : tab.length ≤ 64) (ht : ∀ n ∈ tab, n ≤ wide) : ∀ (d k i out : Nat), i + d = tab.length → d < k → out < 2 ^ i →
    cipher_take.l0 k (x : Int) (wide : Int) (out : Int) (natL tab) ((tab.length : Nat) : Int) (i : Int) = some (((tab.drop i).foldl (takeStep x wide) out : Nat) : Int) := by
  intro d
  induction d with
  | zero =>
    intro k i out hi hk ho
    obtain ⟨k, rfl⟩ : ∃ m, k = m + 1 := ⟨k - 1, by omega⟩
    rw [cipher_take.l0.eq_2, if_neg (by omega), List.drop_of_length_le (by omega)]
    rfl
  | succ d ih =>
    intro k i out hi hk ho
    obtain ⟨k, rfl⟩ : ∃ m, k = m + 1 := ⟨k - 1, by omega⟩
    have hn : tab.getD i 0 ≤ wide := ht _ (by rw [List.getD_eq_getElem?_getD, List.getElem?_eq_getElem (by omega)]; exact List.getElem_mem _)
    have ho' : out < 9223372036854775808 := by
      have : 2 ^ i ≤ 2 ^ 63 := Nat.pow_le_pow_right (by decide) (by omega)
      omega
    have e1 : wrap64 ((tab.getD i 0 : Nat) : Int) = ((tab.getD i 0 : Nat) : Int) := wrap_in (by omega) (by omega)
    have e2 : wrap64 ((wide : Int) - ((tab.getD i 0 : Nat) : Int)) = ((wide - tab.getD i 0 : Nat) : Int) := by rw [wrap_in (by omega) (by omega)]; omega
    rw [cipher_take.l0.eq_2, if_pos (by omega), if_pos (by omega), if_pos (by rw [natL_length]; omega), rd_natL, e1, e2, if_pos (by omega), take_bit _ _ _ hx (by omega) ho', wrap_inc (by omega)]
    rw [dropD tab i 0 (by omega), List.foldl_cons]
    exact ih k (i + 1) _ (by omega) (by omega) (by rw [Nat.pow_succ]; omega)
theorem take_eq (tab : List Nat) (x wide : Nat) (hx : x < 18446744073709551616) (hw : wide ≤ 64) (hl : tab.length ≤ 64) (ht : ∀ n ∈ tab, n ≤ wide) (k : Nat) (hk : 64 < k) :
    cipher_take.f k (natL tab) (x : Int) (wide : Int) = some ((takeN tab x wide : Nat) : Int) := by
  unfold cipher_take.f takeN
  have := take_loop tab x wide hx hw hl ht tab.length k 0 0 (by omega) (by omega) (by decide)
  rw [natL_length]
  exact this
theorem takeN_lt (tab : List Nat) (x wide : Nat) : takeN tab x wide < 2 ^ tab.length := by
  have h : ∀ (tab : List Nat) (out i : Nat), out < 2 ^ i → tab.foldl (takeStep x wide) out < 2 ^ (i + tab.length) := by
    intro tab
    induction tab with
    | nil => intro out i h; exact h
    | cons n tab ih =>
      intro out i h
      rw [List.foldl_cons, List.length_cons, show i + (tab.length + 1) = (i + 1) + tab.length by omega]
      refine ih _ _ ?_
      unfold takeStep
      rw [Nat.pow_succ]
      omega
  have := h tab 0 0 (by decide)
  rwa [Nat.zero_add] at this

/-! ### number -/
def numB (l : List UInt8) : Nat := l.foldl (fun n c => n * 256 + c.toNat) 0
theorem numB_lt (l : List UInt8) : numB l < 256 ^ l.length := by
  have h : ∀ (l : List UInt8) (n i : Nat), n < 256 ^ i → l.foldl (fun n c => n * 256 + c.toNat) n < 256 ^ (i + l.length) := by
    intro l
    induction l with
    | nil => intro n i h; exact h
    | cons c l ih =>
      intro n i h
      rw [List.foldl_cons, List.length_cons, show i + (l.length + 1) = (i + 1) + l.length by omega]
      refine ih _ _ ?_
      have := c.toNat_lt
      rw [Nat.pow_succ]
      omega
  have := h l 0 0 (by decide)
  rwa [Nat.zero_add] at this
theorem number_loop (s : ByteArray) (hs : 8 ≤ s.size) : ∀ (d k i n : Nat), i + d = 8 → d < k → n < 256 ^ i →
    cipher_number.l0 k s (n : Int) (i : Int) = some ((((((bl s).take 8).drop i).foldl (fun n c => n * 256 + c.toNat) n : Nat)) : Int) := by
  intro d
  induction d with
  | zero =>
    intro k i n hi hk hn
    obtain ⟨k, rfl⟩ : ∃ m, k = m + 1 := ⟨k - 1, by omega⟩
    rw [cipher_number.l0.eq_2, if_neg (by omega), List.drop_of_length_le (by rw [List.length_take]; omega)]
    rfl
  | succ d ih =>
    intro k i n hi hk hn
    obtain ⟨k, rfl⟩ : ∃ m, k = m + 1 := ⟨k - 1, by omega⟩
    have hl : i < ((bl s).take 8).length := by rw [List.length_take, bl_length]; omega
    have hn' : n < 72057594037927936 := by
      have : 256 ^ i ≤ 256 ^ 7 := Nat.pow_le_pow_right (by decide) (by omega)
      omega
    have hg : ((bl s).take 8).getD i 0 = (bl s).getD i 0 := by
      rw [List.getD_eq_getElem?_getD, List.getD_eq_getElem?_getD, List.getElem?_take, if_pos (by omega)]
    have hc := ((bl s).getD i 0).toNat_lt
    have e1 : (n : Int) * 256 = ((n * 256 : Nat) : Int) := by omega
    rw [cipher_number.l0.eq_2, if_pos (by omega), if_pos (by omega), if_pos (by omega), bt_nat, e1, wrapU (by omega), wrapU (by omega), u64_or_nat _ _ (by omega) (by omega), wrap_inc (by omega)]
    rw [dropD _ i 0 hl, List.foldl_cons, hg]
    have := or_add n ((bl s).getD i 0).toNat 8 (by omega)
    rw [show (2 : Nat) ^ 8 = 256 from rfl] at this
    rw [this]
    exact ih k (i + 1) _ (by omega) (by omega) (by rw [Nat.pow_succ]; omega)
theorem number_eq (s : ByteArray) (hs : 8 ≤ s.size) (k : Nat) (hk : 8 < k) : cipher_number.f k s = some ((numB ((bl s).take 8) : Nat) : Int) :=
  number_loop s hs 8 k 0 0 (by omega) hk (by decide)

/-! ### half -/
def halfN (n by_ : Nat) : Nat := (n * 2 ^ by_ + n / 2 ^ (28 - by_)) % 2 ^ 28
theorem half_eq (n b : Nat) (hn : n < 2 ^ 28) (hb : b = 1 ∨ b = 2) : cipher_half.f (n : Int) (b : Int) = some ((halfN n b : Nat) : Int) := by
  unfold cipher_half.f
  have e1 : wrap64 (28 - (b : Int)) = ((28 - b : Nat) : Int) := by rw [wrap_in (by omega) (by omega)]; omega
  rw [if_pos (by omega), e1, if_pos (by omega)]
  have h1 : shr .u64 (n : Int) ((28 - b : Nat) : Int) = ((n / 2 ^ (28 - b) : Nat) : Int) := by
    unfold shr
    rw [Int.toNat_natCast, Nat.min_eq_left (show 28 - b ≤ IntKind.u64.bits by have : IntKind.u64.bits = 64 := rfl; omega), Int.natCast_ediv, Int.natCast_pow]
    rfl
  have h3 : n * 2 ^ b < 18446744073709551616 := by rcases hb with rfl | rfl <;> omega
  have h2 : shl .u64 (n : Int) (b : Int) = ((n * 2 ^ b : Nat) : Int) := by
    unfold shl
    rw [Int.toNat_natCast, Nat.min_eq_left (show b ≤ IntKind.u64.bits by have : IntKind.u64.bits = 64 := rfl; omega)]
    have : (n : Int) * 2 ^ b = ((n * 2 ^ b : Nat) : Int) := by rw [Int.natCast_mul, Int.natCast_pow]; rfl
    rw [this, wrapU h3]
  have h4 : n / 2 ^ (28 - b) < 2 ^ b := by
    rw [Nat.div_lt_iff_lt_mul (Nat.two_pow_pos _), ← Nat.pow_add]
    rw [show b + (28 - b) = 28 by omega]
    exact hn
  have h5 : n / 2 ^ (28 - b) < 18446744073709551616 := Nat.lt_of_le_of_lt (Nat.div_le_self _ _) (by omega)
  rw [h1, h2, u64_or_nat _ _ h3 h5, or_add _ _ _ h4, show (268435455 : Int) = ((268435455 : Nat) : Int) from rfl, u64_and_nat _ _ (by rcases hb with rfl | rfl <;> omega) (by decide)]
  have := Nat.and_two_pow_sub_one_eq_mod (n * 2 ^ b + n / 2 ^ (28 - b)) 28
  rw [show (2 : Nat) ^ 28 - 1 = 268435455 from rfl] at this
  rw [this]
  rfl
theorem halfN_lt (n b : Nat) : halfN n b < 2 ^ 28 := Nat.mod_lt _ (by decide)

/-! ### bytes -/
def byteAt (n j : Nat) : UInt8 := UInt8.ofNat (n / 2 ^ (56 - 8 * j))
def bytesN (n : Nat) : List UInt8 := (List.range 8).map (byteAt n)
theorem bytes_loop (n : Nat) (l : List UInt8) (hl : l.length ≤ 1000000) : ∀ (d k i : Nat), i + d = 8 → d + 1 < k →
    cipher_bytes.l0 k (toInts (l ++ (bytesN n).take i)) (n : Int) (56 - 8 * (i : Int)) = some (toInts (l ++ bytesN n)) := by
  intro d
  induction d with
  | zero =>
    intro k i hi hk
    obtain ⟨k, rfl⟩ : ∃ m, k = m + 1 := ⟨k - 1, by omega⟩
    rw [cipher_bytes.l0.eq_2, if_neg (by omega), List.take_of_length_le (by simp [bytesN]; omega)]
  | succ d ih =>
    intro k i hi hk
    obtain ⟨k, rfl⟩ : ∃ m, k = m + 1 := ⟨k - 1, by omega⟩
    have h1 : shr .u64 (n : Int) (56 - 8 * (i : Int)) = ((n / 2 ^ (56 - 8 * i) : Nat) : Int) := by
      unfold shr
      rw [show (56 - 8 * (i : Int)).toNat = 56 - 8 * i by omega, Nat.min_eq_left (show 56 - 8 * i ≤ IntKind.u64.bits by have : IntKind.u64.bits = 64 := rfl; omega), Int.natCast_ediv, Int.natCast_pow]
      rfl
    have e2 : wrap64 (56 - 8 * (i : Int) - 8) = 56 - 8 * ((i + 1 : Nat) : Int) := by rw [wrap_in (by omega) (by omega)]; omega
    have h2 : ((n / 2 ^ (56 - 8 * i) : Nat) : Int) % 256 = ((byteAt n i).toNat : Int) := by
      unfold byteAt
      rw [UInt8.toNat_ofNat']
      omega
    have h3 : (bytesN n).take (i + 1) = (bytesN n).take i ++ [byteAt n i] := by
      have hp : i < (bytesN n).length := by simp [bytesN]; omega
      rw [List.take_succ_eq_append_getElem hp]
      congr 2
      simp [bytesN]
    rw [cipher_bytes.l0.eq_2, if_pos (by omega), if_pos (by omega), if_pos (by simp [toInts, bytesN]; omega), h1, h2, e2]
    have := ih k (i + 1) (by omega) (by omega)
    rw [h3] at this
    rw [← this]
    congr 1
    simp [toInts]
theorem bytes_eq (n : Nat) (l : List UInt8) (hl : l.length ≤ 1000000) (k : Nat) (hk : 9 < k) : cipher_bytes.f k (toInts l) (n : Int) = some (toInts (l ++ bytesN n)) := by
  unfold cipher_bytes.f
  have := bytes_loop n l hl 8 k 0 (by omega) (by omega)
  simpa using this
end Go.Proofs.YtkjjdodnkcmeiaaGreatDoor.PX
namespace Go.Proofs.YtkjjdodnkcmeiaaGreatDoor.PX
open Go.RowKit Go.Proofs.YtkjjdodnkcmeiaaGreatDoorW.PrintWords Go.Proofs.YtkjjdodnkcmeiaaGreatDoorW.PrintLast Go.Proofs.YtkjjdodnkcmeiaaGreatDoorW.PrintMore

def rotS (i : Nat) : Nat := if i = 0 then 31 else 4 * i - 1
def rotN (r i : Nat) : Nat := (r * 2 ^ rotS i) % 4294967296 ||| r / 2 ^ (32 - rotS i)
def idxN (six : Nat) : Nat := 16 * (six / 32 * 2 + six % 2) + six / 2 % 16
def sboxN (i six : Nat) : Nat := (((cipher_box.f (i : Int)).bind fun b => cipher_sixteenth.f (bt b (idxN six : Int))).getD 0).toNat
def sixN (r key i : Nat) : Nat := (rotN r i / 67108864) ^^^ (key / 2 ^ (42 - 6 * i)) % 64
def outStep (r key : Nat) (out i : Nat) : Nat := 16 * out + sboxN i (sixN r key i)
def outTo (r key : Nat) : Nat → Nat
  | 0 => 0
  | n + 1 => outStep r key (outTo r key n) n
def outN (r key : Nat) : Nat := outTo r key 8
def spreadN : List Nat := [16, 7, 20, 21, 29, 12, 28, 17, 1, 15, 23, 26, 5, 18, 31, 10, 2, 8, 24, 14, 32, 27, 3, 9, 19, 13, 30, 6, 22, 11, 4, 25]
def mixN (r key : Nat) : Nat := takeN spreadN (outN r key) 32

theorem rotS_eq (i : Nat) (hi : i < 8) : Go.bits .and .u64 (IntKind.u64.wrap (wrap64 ((wrap64 (4 * (i : Int))) - 1))) 31 = ((rotS i : Nat) : Int) ∧ IntKind.u64.wrap (32 - ((rotS i : Nat) : Int)) = ((32 - rotS i : Nat) : Int) ∧ rotS i ≤ 31 ∧ 1 ≤ rotS i := by
  have h : ∀ i : Fin 8, Go.bits .and .u64 (IntKind.u64.wrap (wrap64 ((wrap64 (4 * (i.1 : Int))) - 1))) 31 = ((rotS i.1 : Nat) : Int) ∧ IntKind.u64.wrap (32 - ((rotS i.1 : Nat) : Int)) = ((32 - rotS i.1 : Nat) : Int) ∧ rotS i.1 ≤ 31 ∧ 1 ≤ rotS i.1 := by decide +kernel
  exact h ⟨i, hi⟩
theorem rotN_lt (r i : Nat) (hr : r < 4294967296) : rotN r i < 4294967296 := by
  unfold rotN
  exact Nat.or_lt_two_pow (n := 32) (Nat.mod_lt _ (by decide)) (Nat.lt_of_le_of_lt (Nat.div_le_self _ _) hr)
theorem rot_eq (r i : Nat) (hr : r < 4294967296) (hi : i < 8) : bits_RotateLeft32.f (r : Int) (wrap64 ((wrap64 (4 * (i : Int))) - 1)) = some ((rotN r i : Nat) : Int) := by
  obtain ⟨e1, e2, e3, e4⟩ := rotS_eq i hi
  unfold bits_RotateLeft32.f
  rw [e1, e2, if_pos (by omega), if_pos (by omega)]
  have h1 : shr .u32 (r : Int) ((32 - rotS i : Nat) : Int) = ((r / 2 ^ (32 - rotS i) : Nat) : Int) := by
    unfold shr
    rw [Int.toNat_natCast, Nat.min_eq_left (show 32 - rotS i ≤ IntKind.u32.bits by have : IntKind.u32.bits = 32 := rfl; omega), Int.natCast_ediv, Int.natCast_pow]
    rfl
  have h2 : shl .u32 (r : Int) ((rotS i : Nat) : Int) = ((r * 2 ^ rotS i % 4294967296 : Nat) : Int) := by
    unfold shl
    rw [Int.toNat_natCast, Nat.min_eq_left (show rotS i ≤ IntKind.u32.bits by have : IntKind.u32.bits = 32 := rfl; omega)]
    have : (r : Int) * 2 ^ rotS i = ((r * 2 ^ rotS i : Nat) : Int) := by rw [Int.natCast_mul, Int.natCast_pow]; rfl
    rw [this, IntKind.wrap_u32]
    omega
  rw [h1, h2, u32_or_nat _ _ (Nat.mod_lt _ (by decide)) (Nat.lt_of_le_of_lt (Nat.div_le_self _ _) hr)]
  rfl
theorem six_idx (six : Nat) (h : six < 64) : IntKind.u64.wrap ((IntKind.u64.wrap (16 * (Go.bits .or .u64 (Go.bits .and .u64 ((six : Int) / 16) 2) (Go.bits .and .u64 (six : Int) 1)))) + (Go.bits .and .u64 ((six : Int) / 2) 15)) = ((idxN six : Nat) : Int) ∧ idxN six < 64 := by
  have h' : ∀ six : Fin 64, IntKind.u64.wrap ((IntKind.u64.wrap (16 * (Go.bits .or .u64 (Go.bits .and .u64 ((six.1 : Int) / 16) 2) (Go.bits .and .u64 (six.1 : Int) 1)))) + (Go.bits .and .u64 ((six.1 : Int) / 2) 15)) = ((idxN six.1 : Nat) : Int) ∧ idxN six.1 < 64 := by decide +kernel
  exact h' ⟨six, h⟩
theorem sbox_all : ∀ (i : Fin 8), ∃ b, cipher_box.f (i.1 : Int) = some b ∧ b.size = 64 ∧ ∀ j : Fin 64, cipher_sixteenth.f (bt b (j.1 : Int)) = some (((cipher_sixteenth.f (bt b (j.1 : Int))).getD 0).toNat : Int) ∧ ((cipher_sixteenth.f (bt b (j.1 : Int))).getD 0).toNat < 16 := by
  intro i
  match i with
  | ⟨0, _⟩ => exact ⟨_, rfl, by decide +kernel, by decide +kernel⟩
  | ⟨1, _⟩ => exact ⟨_, rfl, by decide +kernel, by decide +kernel⟩
  | ⟨2, _⟩ => exact ⟨_, rfl, by decide +kernel, by decide +kernel⟩
  | ⟨3, _⟩ => exact ⟨_, rfl, by decide +kernel, by decide +kernel⟩
  | ⟨4, _⟩ => exact ⟨_, rfl, by decide +kernel, by decide +kernel⟩
  | ⟨5, _⟩ => exact ⟨_, rfl, by decide +kernel, by decide +kernel⟩
  | ⟨6, _⟩ => exact ⟨_, rfl, by decide +kernel, by decide +kernel⟩
  | ⟨7, _⟩ => exact ⟨_, rfl, by decide +kernel, by decide +kernel⟩
theorem sbox_ok (i six : Nat) (hi : i < 8) (h : six < 64) : ∃ b, cipher_box.f (i : Int) = some b ∧ b.size = 64 ∧ cipher_sixteenth.f (bt b (idxN six : Int)) = some ((sboxN i six : Nat) : Int) ∧ sboxN i six < 16 := by
  obtain ⟨b, h1, h2, h3⟩ := sbox_all ⟨i, hi⟩
  obtain ⟨k1, k2⟩ := h3 ⟨idxN six, (six_idx six h).2⟩
  have e : sboxN i six = ((cipher_sixteenth.f (bt b (idxN six : Int))).getD 0).toNat := by
    unfold sboxN
    rw [show cipher_box.f (i : Int) = some b from h1]
    rfl
  exact ⟨b, h1, h2, by rw [e]; exact k1, by rw [e]; exact k2⟩
theorem sixN_lt (r key i : Nat) (hr : r < 4294967296) : sixN r key i < 64 := by
  unfold sixN
  refine Nat.xor_lt_two_pow (n := 6) ?_ (Nat.mod_lt _ (by decide))
  have := rotN_lt r i hr
  omega
theorem six_eq (r key i : Nat) (hr : r < 4294967296) (hk : key < 18446744073709551616) (hi : i < 8) :
    Go.bits .xor .u64 (IntKind.u64.wrap (((rotN r i : Nat) : Int) / 67108864)) (Go.bits .and .u64 (shr .u64 (key : Int) ((42 - 6 * i : Nat) : Int)) 63) = ((sixN r key i : Nat) : Int) := by
  have hrot := rotN_lt r i hr
  have h1 : shr .u64 (key : Int) ((42 - 6 * i : Nat) : Int) = ((key / 2 ^ (42 - 6 * i) : Nat) : Int) := by
    unfold shr
    rw [Int.toNat_natCast, Nat.min_eq_left (show 42 - 6 * i ≤ IntKind.u64.bits by have : IntKind.u64.bits = 64 := rfl; omega), Int.natCast_ediv, Int.natCast_pow]
    rfl
  have h2 : ((rotN r i : Nat) : Int) / 67108864 = ((rotN r i / 67108864 : Nat) : Int) := by omega
  have h3 : key / 2 ^ (42 - 6 * i) < 18446744073709551616 := Nat.lt_of_le_of_lt (Nat.div_le_self _ _) hk
  rw [h1, h2, wrapU (by omega), show (63 : Int) = ((63 : Nat) : Int) from rfl, u64_and_nat _ _ h3 (by decide)]
  have h4 := Nat.and_two_pow_sub_one_eq_mod (key / 2 ^ (42 - 6 * i)) 6
  rw [show (2 : Nat) ^ 6 - 1 = 63 from rfl] at h4
  rw [h4, u64_xor_nat _ _ (by omega) (by omega)]
  rfl
theorem mixed_step (r key : Nat) (tab : List Int) (hr : r < 4294967296) (hk : key < 18446744073709551616) (k i out : Nat) (hi : i < 8) (ho : out < 16 ^ i) :
    cipher_mixed.l0 (k + 1) (r : Int) (key : Int) tab (out : Int) (i : Int) = cipher_mixed.l0 k (r : Int) (key : Int) tab ((outStep r key out i : Nat) : Int) ((i + 1 : Nat) : Int) := by
  have e42 : wrap64 (42 - (wrap64 (6 * (i : Int)))) = ((42 - 6 * i : Nat) : Int) := by rw [wrap_in (x := 6 * (i : Int)) (by omega) (by omega), wrap_in (by omega) (by omega)]; omega
  have h6 := sixN_lt r key i hr
  obtain ⟨s1, s2⟩ := six_idx _ h6
  obtain ⟨b, b1, b2, b3, b4⟩ := sbox_ok i (sixN r key i) hi h6
  have ho' : out < 268435456 := by
    have : 16 ^ i ≤ 16 ^ 7 := Nat.pow_le_pow_right (by decide) (by omega)
    omega
  rw [cipher_mixed.l0.eq_2, if_pos (by omega), rot_eq r i hr hi, Option.bind_some, e42, if_pos (by omega), b1, Option.bind_some, six_eq r key i hr hk hi, s1, if_pos (by omega), if_pos (by omega), b3, Option.bind_some, wrap_inc (by omega)]
  have e : Go.bits .or .u64 (IntKind.u64.wrap ((out : Int) * 16)) ((sboxN i (sixN r key i) : Nat) : Int) = ((outStep r key out i : Nat) : Int) := by
    have h2 : (out : Int) * 16 = ((out * 16 : Nat) : Int) := by omega
    rw [h2, wrapU (by omega), u64_or_nat _ _ (by omega) (by omega)]
    have := or_add out (sboxN i (sixN r key i)) 4 (by omega)
    rw [show (2 : Nat) ^ 4 = 16 from rfl] at this
    rw [this]
    unfold outStep
    omega
  rw [e]
theorem outStep_lt (r key out i : Nat) (hr : r < 4294967296) (hi : i < 8) (ho : out < 16 ^ i) : outStep r key out i < 16 ^ (i + 1) := by
  obtain ⟨b, _, _, _, b4⟩ := sbox_ok i (sixN r key i) hi (sixN_lt r key i hr)
  unfold outStep
  rw [Nat.pow_succ]
  omega
theorem outTo_lt (r key : Nat) (hr : r < 4294967296) : ∀ i, i ≤ 8 → outTo r key i < 16 ^ i
  | 0, _ => Nat.one_pos
  | i + 1, h => outStep_lt r key _ i hr (by omega) (outTo_lt r key hr i (by omega))
theorem mixed_loop (r key : Nat) (tab : List Int) (hr : r < 4294967296) (hk : key < 18446744073709551616) (k : Nat) : ∀ (d i : Nat), i + d = 8 →
    cipher_mixed.l0 (k + d) (r : Int) (key : Int) tab ((outTo r key i : Nat) : Int) (i : Int) = cipher_mixed.l0 k (r : Int) (key : Int) tab ((outN r key : Nat) : Int) ((8 : Nat) : Int)
  | 0, i, h => by
    have e : i = 8 := by omega
    rw [e]
    rfl
  | d + 1, i, h => by
    rw [show k + (d + 1) = (k + d) + 1 by omega, mixed_step r key tab hr hk (k + d) i _ (by omega) (outTo_lt r key hr i (by omega))]
    exact mixed_loop r key tab hr hk k d (i + 1) (by omega)
theorem mixed_eq (r key : Nat) (hr : r < 4294967296) (hk : key < 18446744073709551616) (k : Nat) (hk' : 100 < k) : cipher_mixed.f k (r : Int) (key : Int) (natL spreadN) = some ((mixN r key : Nat) : Int) := by
  obtain ⟨k, rfl⟩ : ∃ m, k = (m + 1) + 8 := ⟨k - 9, by omega⟩
  have h := mixed_loop r key (natL spreadN) hr hk (k + 1) 8 0 (by omega)
  have o8 : outN r key < 18446744073709551616 := Nat.lt_of_lt_of_le (outTo_lt r key hr 8 (by omega)) (by decide)
  have e : cipher_mixed.f (k + 1 + 8) (r : Int) (key : Int) (natL spreadN) = cipher_mixed.l0 (k + 1 + 8) (r : Int) (key : Int) (natL spreadN) ((outTo r key 0 : Nat) : Int) ((0 : Nat) : Int) := rfl
  rw [e, h, cipher_mixed.l0.eq_2, if_neg (by omega), show (32 : Int) = ((32 : Nat) : Int) from rfl, take_eq spreadN _ 32 o8 (by decide) (by decide) (by decide) k (by omega), Option.bind_some]
  have hm : takeN spreadN (outN r key) 32 < 4294967296 := takeN_lt spreadN (outN r key) 32
  unfold mixN
  congr 1
  omega
theorem mixN_lt (r key : Nat) : mixN r key < 4294967296 := takeN_lt spreadN (outN r key) 32
end Go.Proofs.YtkjjdodnkcmeiaaGreatDoor.PX
