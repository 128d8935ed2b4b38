/- The plain law of the printed turnstileref3.Turn: at a key of two parts and one block it answers what the program's cipher answers. -/
import Derived.Test.YtkjjdodnkcmeiaaGreatDoorSeal
import Derived.Test.YtkjjdodnkcmeiaaGreatDoorPX22
namespace Go.Proofs.YtkjjdodnkcmeiaaGreatDoor.PX
open Go.RowKit Go.Proofs.YtkjjdodnkcmeiaaGreatDoorW.PrintWords Go.Proofs.YtkjjdodnkcmeiaaGreatDoorW.PrintLast Go.Proofs.YtkjjdodnkcmeiaaGreatDoorW.PrintMore

def oneS (a s : ByteArray) (back : Bool) : ByteArray := ⟨(bytesN (oneN (keyN (bl a)) (numB (bl s)) back)).toArray⟩
theorem bl_bytes (x : Nat) : bl ⟨(bytesN x).toArray⟩ = bytesN x := by simp [bl]
theorem oneS_size (a s : ByteArray) (back : Bool) : (oneS a s back).size = 8 := by
  rw [← bl_length]
  unfold oneS
  rw [bl_bytes]
  simp [bytesN]
theorem oneS_num (a s : ByteArray) (back : Bool) : numB (bl (oneS a s back)) = oneN (keyN (bl a)) (numB (bl s)) back := by
  unfold oneS
  rw [bl_bytes, num_bytes _ (oneN_lt _ _ _)]
theorem one_eq (a s : ByteArray) (back : Bool) (ha : a.size = 8) (hs : s.size = 8) : turnstileref3_one.f a s back = some (oneS a s back) := by
  unfold turnstileref3_one.f
  rw [if_pos ⟨ha, hs⟩]
  rfl
theorem part_size (key : ByteArray) (hk : key.size = 16) : (key.extract 0 8).size = 8 ∧ (key.extract 8 16).size = 8 := by
  constructor
  · rw [← bl_length, bl_extract, List.extract_eq_take_drop, List.length_take, List.length_drop, bl_length]; omega
  · rw [← bl_length, bl_extract, List.extract_eq_take_drop, List.length_take, List.length_drop, bl_length]; omega
theorem part_one (key : ByteArray) : keyN (bl (key.extract 0 8)) = kOne key := by
  unfold kOne
  rw [bl_extract, List.extract_eq_take_drop]
  rfl
theorem part_two (key : ByteArray) : keyN (bl (key.extract 8 16)) = kTwo key := by
  unfold kTwo
  rw [bl_extract, List.extract_eq_take_drop]
theorem rblock3_eq (key s : ByteArray) (back : Bool) (hk : key.size = 16) (hs : s.size = 8) (k : Nat) (hk' : 0 < k) : turnstileref3_block.f k key s back = some (sealN (kOne key) (kTwo key) s back) := by
  obtain ⟨k, rfl⟩ : ∃ m, k = m + 1 := ⟨k - 1, by omega⟩
  obtain ⟨p1, p2⟩ := part_size key hk
  have e1 : wrap64 ((key.size : Int) - 8) = 8 := by rw [wrap_in (by omega) (by omega)]; omega
  unfold turnstileref3_block.f
  rw [if_neg (by omega), if_pos (by decide), if_pos (by omega), if_pos (by decide), if_pos (by omega), e1, if_pos (by decide), if_pos (by omega), if_pos (by omega), turnstileref3_block.j0.eq_2]
  have fin : ∀ b : Bool, oneS (key.extract 0 8) (oneS (key.extract 8 16) (oneS (key.extract 0 8) s b) (!b)) b = sealN (kOne key) (kTwo key) s b := by
    intro b
    show (⟨(bytesN (oneN (keyN (bl (key.extract 0 8))) (numB (bl (oneS (key.extract 8 16) (oneS (key.extract 0 8) s b) (!b)))) b)).toArray⟩ : ByteArray) = _
    rw [oneS_num, oneS_num, part_one, part_two]
    rfl
  cases back
  · rw [if_neg (by decide), one_eq _ _ _ p1 hs, Option.bind_some, one_eq _ _ _ p2 (oneS_size _ _ _), Option.bind_some, one_eq _ _ _ p1 (oneS_size _ _ _), Option.bind_some]
    exact congrArg some (fin false)
  · rw [if_pos rfl, one_eq _ _ _ p1 hs, Option.bind_some, one_eq _ _ _ p2 (oneS_size _ _ _), Option.bind_some, one_eq _ _ _ p1 (oneS_size _ _ _), Option.bind_some]
    exact congrArg some (fin true)
theorem extract_whole (s : ByteArray) (h : s.size = 8) : s.extract 0 8 = s := by
  apply bl_ext
  rw [bl_extract, List.extract_eq_take_drop, List.drop_zero, List.take_of_length_le (by rw [bl_length]; omega)]
theorem rturn_eq (key s : ByteArray) (back : Bool) (hk : key.size = 16) (hs : s.size = 8) (k : Nat) (hk' : 3 < k) : turnstileref3_Turn.f k key s back = some (sealN (kOne key) (kTwo key) s back, 0) := by
  obtain ⟨k, rfl⟩ : ∃ m, k = m + 2 := ⟨k - 2, by omega⟩
  have e8 : wrap64 (0 + 8) = 8 := wrap_in (by decide) (by decide)
  have hz := sealN_size (kOne key) (kTwo key) s back
  have h0 : (⟨#[]⟩ : ByteArray) ++ sealN (kOne key) (kTwo key) s back = sealN (kOne key) (kTwo key) s back := by
    apply bl_ext
    simp [bl, ByteArray.data_append]
  unfold turnstileref3_Turn.f
  rw [if_pos (by omega), turnstileref3_Turn.l0.eq_2, if_pos (by omega), if_pos (by decide), e8, if_pos (by decide), if_pos (by omega)]
  rw [show (0 : Int).toNat = 0 from rfl, show (8 : Int).toNat = 8 from rfl, extract_whole s hs, rblock3_eq key s back hk hs (k + 1) (by omega), Option.bind_some, h0, if_pos (by rw [hz]; decide), turnstileref3_Turn.l0.eq_2, if_neg (by omega)]
end Go.Proofs.YtkjjdodnkcmeiaaGreatDoor.PX
