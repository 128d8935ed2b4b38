/- The pure laws of PinSeals and PinMoves: the printed functions of the document's answer are the program's, under any key. -/
import Derived.Test.YtkjjdodnkcmeiaaGreatDoorPurK
import Derived.Test.YtkjjdodnkcmeiaaGreatDoorPurR
import Derived.Test.YtkjjdodnkcmeiaaGreatDoorPurT
import Derived.Test.YtkjjdodnkcmeiaaGreatDoorPX22
import Derived.Test.YtkjjdodnkcmeiaaGreatDoorPX25
namespace Go.Proofs.YtkjjdodnkcmeiaaGreatDoor.PX
open Go.RowKit Go.Proofs.YtkjjdodnkcmeiaaGreatDoorW.PrintWords Go.Proofs.YtkjjdodnkcmeiaaGreatDoorW.PrintLast Go.Proofs.YtkjjdodnkcmeiaaGreatDoorW.PrintMore

theorem rseal_eq (key : ByteArray) (f : Int) (pin pan fill : ByteArray) (s1 : pin.size ≤ 140737488355328) (s2 : pan.size ≤ 140737488355328) (s3 : fill.size ≤ 140737488355328) (k : Nat) (hk : 102 + pin.size + pan.size + fill.size < k) :
    turnstileref6_Seal.f k key f pin pan fill = some (sealR key f pin pan fill) := by
  unfold turnstileref6_Seal.f sealR
  by_cases h16 : key.size = 16
  · rw [if_pos (by omega), if_pos h16, rblock_eq f pin pan fill s1 s2 s3 k hk, Option.bind_some]
    by_cases h0 : (blockR f pin pan fill).2 = 0
    · rw [if_pos h0, if_pos h0, rturn_eq key _ false h16 (blockR_size f pin pan fill h0) k (by omega), Option.bind_some]
    · rw [if_neg h0, if_neg h0]
      rfl
  · rw [if_neg (by omega), if_neg h16]
    rfl
theorem runseal_eq (key : ByteArray) (f : Int) (blk pan : ByteArray) (s2 : pan.size ≤ 140737488355328) (k : Nat) (hk : 100 + pan.size < k) :
    turnstileref6_Unseal.f k key f blk pan = some (unsealR key f blk pan) := by
  unfold turnstileref6_Unseal.f unsealR
  by_cases h16 : key.size = 16
  · rw [if_pos (by omega), if_pos h16]
    by_cases h8 : blk.size = 8
    · rw [if_pos (by omega), if_pos h8, rturn_eq key blk true h16 h8 k (by omega), Option.bind_some, ropen_eq f _ pan s2 k hk, Option.bind_some]
    · rw [if_neg (by omega), if_neg h8]
      rfl
  · rw [if_neg (by omega), if_neg h16]
    rfl
theorem pseal_eq (key : ByteArray) (f : Int) (pin pan fill : ByteArray) (s1 : pin.size ≤ 140737488355328) (s2 : pan.size ≤ 140737488355328) (s3 : fill.size ≤ 140737488355328) : pin_Seal.f key f pin pan fill = some (sealR key f pin pan fill) := by
  unfold pin_Seal.f
  rw [if_pos ⟨s1, s2, s3⟩]
/-! ### how long an opened PIN may be -/
theorem digFrom_len (n : Nat) : ∀ (l : List Nat) (i : Nat), (digFrom n i l).length ≤ l.length
  | [], _ => by simp [digFrom]
  | v :: l, i => by
    have := digFrom_len n l (i + 1)
    unfold digFrom
    split
    · simp only [List.length_cons]; omega
    · simp only [List.length_cons]; omega
theorem openL_size (a0 : Int) (L : List Nat) : (openL a0 L).1.size ≤ L.length := by
  unfold openL
  by_cases h : L.getD 1 0 < 4 ∨ 12 < L.getD 1 0
  · rw [if_pos h]
    show (bsOf []).size ≤ _
    rw [bsOf_size]
    exact Nat.zero_le _
  · rw [if_neg h]
    cases okFrom a0 (L.getD 1 0) 2 (L.drop 2)
    · show (bsOf []).size ≤ _
      rw [bsOf_size]
      exact Nat.zero_le _
    · show (bsOf _).size ≤ _
      rw [bsOf_size]
      have := digFrom_len (L.getD 1 0) (L.drop 2) 2
      rw [List.length_drop] at this
      omega
theorem xorN_len (a b : List Nat) : (xorN a b).length ≤ a.length := by
  unfold xorN
  rw [List.length_zipWith]
  omega
theorem openR_size (a0 : Int) (blk pan : ByteArray) : (openR a0 blk pan).1.size ≤ 16 := by
  unfold openR
  by_cases h : knownB a0 = true ∧ blk.size = 8 ∧ ((((bl blk).getD 0 0).toNat / 16 : Nat) : Int) = a0
  · rw [if_pos h]
    by_cases h2 : a0 ≠ 1 ∧ digB (bl pan) 13 19 = false
    · rw [if_pos h2]
      show (bsOf []).size ≤ _
      rw [bsOf_size]
      exact Nat.zero_le _
    · rw [if_neg h2]
      have hl : (halvesN (bl blk)).length = 16 := by rw [halvesN_length, bl_length, h.2.1]
      refine Nat.le_trans (openL_size _ _) ?_
      split
      · omega
      · exact Nat.le_trans (xorN_len _ _) (by omega)
  · rw [if_neg h]
    show (bsOf []).size ≤ _
    rw [bsOf_size]
    exact Nat.zero_le _
theorem unsealR_size (key : ByteArray) (f : Int) (blk pan : ByteArray) : (unsealR key f blk pan).1.size ≤ 16 := by
  unfold unsealR
  split
  · split
    · exact openR_size _ _ _
    · exact Nat.zero_le _
  · exact Nat.zero_le _
end Go.Proofs.YtkjjdodnkcmeiaaGreatDoor.PX
