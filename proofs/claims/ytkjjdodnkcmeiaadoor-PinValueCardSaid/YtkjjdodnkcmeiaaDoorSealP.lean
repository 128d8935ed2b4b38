/- What is sealed is unsealed: the same PIN comes out. -/
import Derived.Test.YtkjjdodnkcmeiaaDoorSeal
namespace Go.Proofs.YtkjjdodnkcmeiaaDoor.PX
open Go.RowKit Go.Proofs.YtkjjdodnkcmeiaaDoorW.PrintWords Go.Proofs.YtkjjdodnkcmeiaaDoorW.PrintLast Go.Proofs.YtkjjdodnkcmeiaaDoorW.PrintMore

theorem i64_range {a : Int} (h : (Lit.int .i64 a).wf = true) : -9223372036854775808 ≤ a ∧ a ≤ 9223372036854775807 := by
  have h' : (decide (IntKind.i64.min ≤ a) && decide (a ≤ IntKind.i64.max)) = true := h
  rw [Bool.and_eq_true, decide_eq_true_eq, decide_eq_true_eq, show IntKind.i64.min = -9223372036854775808 from rfl, show IntKind.i64.max = 9223372036854775807 from rfl] at h'
  exact h'
/-- The sealed block of what may be laid. -/
def blkB (a0 : Int) (pin pan a3 : ByteArray) : ByteArray := bsOf (packL (sixteenN a0 pin pan a3))
theorem blkB_size (a0 : Int) (pin pan a3 : ByteArray) (h013 : a0 = 0 ∨ a0 = 1 ∨ a0 = 3) (hp : digB (bl pin) 4 12 = true) (hs : digB (bl pan) 13 19 = true) (hf : FillOk a0 pin.size a3) : (blkB a0 pin pan a3).size = 8 := by
  unfold blkB
  rw [bsOf_size, packL_length, (sixteenN_ok a0 pin pan a3 h013 hp (fun _ => hs) hf).1]
theorem fillOk_size {a0 : Int} {n : Nat} {a3 : ByteArray} (h : FillOk a0 n a3) : a3.size ≤ 14 := by
  by_cases h0 : a0 = 0
  · have := h.1 h0; omega
  · have := (h.2 h0).1; omega
theorem seal_ok (key : ByteArray) (a0 : Int) (pin pan a3 : ByteArray) (hk : key.size = 16) (h013 : a0 = 0 ∨ a0 = 1 ∨ a0 = 3) (hp : digB (bl pin) 4 12 = true) (hs : digB (bl pan) 13 19 = true) (hf : FillOk a0 pin.size a3) :
    pin_Seal.f key a0 pin pan a3 = some (sealN (kOne key) (kTwo key) (blkB a0 pin pan a3) false, 0) := by
  obtain ⟨l1, l2, l3⟩ := digB_len hp
  obtain ⟨m1, m2, m3⟩ := digB_len hs
  rw [bl_length] at l1 l2 m1 m2
  have := fillOk_size hf
  unfold pin_Seal.f sealR
  rw [if_pos ⟨by omega, by omega, by omega⟩, if_pos hk, block_ok a0 pin pan a3 h013 hp (fun _ => hs) hf]
  rfl
theorem unseal_ok (key : ByteArray) (a0 : Int) (pin pan a3 : ByteArray) (hk : key.size = 16) (h013 : a0 = 0 ∨ a0 = 1 ∨ a0 = 3) (hp : digB (bl pin) 4 12 = true) (hs : digB (bl pan) 13 19 = true) (hf : FillOk a0 pin.size a3) :
    pin_Unseal.f key a0 (sealN (kOne key) (kTwo key) (blkB a0 pin pan a3) false) pan = some (pin, 0) := by
  obtain ⟨m1, m2, m3⟩ := digB_len hs
  rw [bl_length] at m1 m2
  have h8 := blkB_size a0 pin pan a3 h013 hp hs hf
  have hz := sealN_size (kOne key) (kTwo key) (blkB a0 pin pan a3) false
  unfold pin_Unseal.f unsealR
  rw [if_pos ⟨by omega, by omega⟩, if_pos hk, if_pos hz, show sealN (kOne key) (kTwo key) (sealN (kOne key) (kTwo key) (blkB a0 pin pan a3) false) true = blkB a0 pin pan a3 from seal_back _ _ _ h8 false]
  unfold blkB
  rw [open_block a0 pin pan a3 h013 hp (fun _ => hs) hf]
end Go.Proofs.YtkjjdodnkcmeiaaDoor.PX
