/- The law's first example (known) is so: the plain law of the printed function. -/
import Derived.Test.YtkjjdodnkcmeiaaGreatDoorPur6
import Derived.Test.YtkjjdodnkcmeiaaGreatDoorPX6
import Derived.Test.YtkjjdodnkcmeiaaGreatDoorPX8
namespace Go.Proofs.YtkjjdodnkcmeiaaGreatDoor.PX
open Go.RowKit Go.Proofs.YtkjjdodnkcmeiaaGreatDoorW.PrintWords Go.Proofs.YtkjjdodnkcmeiaaGreatDoorW.PrintLast Go.Proofs.YtkjjdodnkcmeiaaGreatDoorW.PrintMore

theorem pblockK_eq (a0 : Int) (a1 a2 a3 : ByteArray) (s1 : a1.size ≤ 140737488355328) (s2 : a2.size ≤ 140737488355328) (s3 : a3.size ≤ 140737488355328) :
    pin_Block.f a0 a1 a2 a3 = some (blockR a0 a1 a2 a3) := by
  unfold pin_Block.f
  rw [if_pos ⟨s1, s2, s3⟩]
theorem knownK_block0 : blockR 0 ⟨#[49, 50, 51, 52]⟩ ⟨#[52, 51, 50, 49, 57, 56, 55, 54, 53, 52, 51, 50, 49, 48, 57, 56, 55]⟩ ⟨#[]⟩ = (⟨#[4, 18, 172, 137, 171, 205, 239, 103]⟩, 0) := by decide +kernel
theorem knownK_block1 : blockR 1 ⟨#[49, 50, 51, 52]⟩ ⟨#[]⟩ ⟨#[48, 49, 50, 51, 52, 53, 54, 55, 56, 57]⟩ = (⟨#[20, 18, 52, 1, 35, 69, 103, 137]⟩, 0) := by decide +kernel
theorem knownK_open0 : openR 0 ⟨#[4, 18, 172, 137, 171, 205, 239, 103]⟩ ⟨#[52, 51, 50, 49, 57, 56, 55, 54, 53, 52, 51, 50, 49, 48, 57, 56, 55]⟩ = (⟨#[49, 50, 51, 52]⟩, 0) := by decide +kernel
theorem lawknownK_eq (k : Nat) (hk : 200 < k) : turnstilelaw6_known.f k = some true := by
  unfold turnstilelaw6_known.f
  rw [pblockK_eq _ _ _ _ (by decide) (by decide) (by decide), knownK_block0, Option.bind_some, popen_eq _ _ _ (by decide) k (by show 100 + 17 < k; omega), knownK_open0, Option.bind_some,
    pblockK_eq _ _ _ _ (by decide) (by decide) (by decide), knownK_block1, Option.bind_some]
  decide +kernel
end Go.Proofs.YtkjjdodnkcmeiaaGreatDoor.PX
