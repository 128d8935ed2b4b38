/- The law PinBlocks in plain Lean: both sides answer the same block and the same PIN. -/
import Derived.Test.YtkjjdodnkcmeiaaDoorPur6
import Derived.Test.YtkjjdodnkcmeiaaDoorPX12
namespace Go.Proofs.YtkjjdodnkcmeiaaDoor.PX
open Go.RowKit Go.Proofs.YtkjjdodnkcmeiaaDoorW.PrintWords Go.Proofs.YtkjjdodnkcmeiaaDoorW.PrintLast Go.Proofs.YtkjjdodnkcmeiaaDoorW.PrintMore

theorem pblock_eq (a0 : Int) (a1 a2 a3 : ByteArray) (s1 : a1.size ≤ 140737488355328) (s2 : a2.size ≤ 140737488355328) (s3 : a3.size ≤ 140737488355328) :
    pin_Block.f a0 a1 a2 a3 = some (blockR a0 a1 a2 a3) := by
  unfold pin_Block.f
  rw [if_pos ⟨s1, s2, s3⟩]
theorem known_block0 : blockR 0 ⟨#[49, 50, 51, 52]⟩ ⟨#[52, 51, 50, 49, 57, 56, 55, 54, 53, 52, 51, 50, 49, 48, 57, 56, 55]⟩ ⟨#[]⟩ = (⟨#[4, 18, 172, 137, 171, 205, 239, 103]⟩, 0) := by decide +kernel
theorem known_block1 : blockR 1 ⟨#[49, 50, 51, 52]⟩ ⟨#[]⟩ ⟨#[48, 49, 50, 51, 52, 53, 54, 55, 56, 57]⟩ = (⟨#[20, 18, 52, 1, 35, 69, 103, 137]⟩, 0) := by decide +kernel
theorem known_open0 : openR 0 ⟨#[4, 18, 172, 137, 171, 205, 239, 103]⟩ ⟨#[52, 51, 50, 49, 57, 56, 55, 54, 53, 52, 51, 50, 49, 48, 57, 56, 55]⟩ = (⟨#[49, 50, 51, 52]⟩, 0) := by decide +kernel
theorem lawknown_eq (k : Nat) (hk : 200 < k) : turnstilelaw6_known.f k = some true := by
  unfold turnstilelaw6_known.f
  rw [pblock_eq _ _ _ _ (by decide) (by decide) (by decide), known_block0, Option.bind_some, popen_eq _ _ _ (by decide) k (by show 100 + 17 < k; omega), known_open0, Option.bind_some,
    pblock_eq _ _ _ _ (by decide) (by decide) (by decide), known_block1, Option.bind_some]
  decide +kernel
theorem pinBlocks_l0 (a0 : Int) (a1 a2 a3 a4 : ByteArray) (s1 : a1.size ≤ 140737488351232) (s2 : a2.size ≤ 140737488351232) (s3 : a3.size ≤ 140737488351232) (x : Bool) (k : Nat) (hk : 102 + a1.size + a2.size + a3.size < k) (i : Int) (hi : i = 0 ∨ i = 1) :
    turnstilelaw6_PinBlocks.l0 (k + 1) a0 a1 a2 a3 a4 x i = turnstilelaw6_PinBlocks.l0 k a0 a1 a2 a3 a4 x (i + 1) := by
  rw [turnstilelaw6_PinBlocks.l0.eq_2, if_pos (by omega), pblock_eq _ _ _ _ (by omega) (by omega) (by omega), Option.bind_some, rblock_eq _ _ _ _ (by omega) (by omega) (by omega) k hk, Option.bind_some,
    popen_eq _ _ _ (by omega) k (by omega), Option.bind_some, ropen_eq _ _ _ (by omega) k (by omega), Option.bind_some, if_pos rfl, if_pos rfl, if_pos rfl, if_pos rfl]
  congr 1
  rcases hi with rfl | rfl <;> decide +kernel
theorem turnstilelaw6_PinBlocks.pure : turnstilelaw6_PinBlocks.Pure := by
  intro a0 a1 a2 a3 a4 _ s1 s2 s3 s4
  refine ⟨300 + a1.size + a2.size + a3.size + 1 + 1 + 1, ?_⟩
  unfold turnstilelaw6_PinBlocks.f
  rw [lawknown_eq _ (by omega), Option.bind_some, pinBlocks_l0 _ _ _ _ _ s1 s2 s3 _ _ (by omega) 0 (Or.inl rfl), pinBlocks_l0 _ _ _ _ _ s1 s2 s3 _ _ (by omega) (0 + 1) (Or.inr rfl),
    turnstilelaw6_PinBlocks.l0.eq_2, if_neg (by decide)]
end Go.Proofs.YtkjjdodnkcmeiaaDoor.PX
