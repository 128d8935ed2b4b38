/- The pure law of PinSeals. -/
import Derived.Test.YtkjjdodnkcmeiaaGreatDoorPure
import Derived.Test.YtkjjdodnkcmeiaaGreatDoorPX26
namespace Go.Proofs.YtkjjdodnkcmeiaaGreatDoor.PX
open Go.RowKit Go.Proofs.YtkjjdodnkcmeiaaGreatDoorW.PrintWords Go.Proofs.YtkjjdodnkcmeiaaGreatDoorW.PrintLast Go.Proofs.YtkjjdodnkcmeiaaGreatDoorW.PrintMore

theorem turnstilelaw6_PinSeals.pure : turnstilelaw6_PinSeals.Pure := by
  intro a0 a1 a2 a3 a4 a5 _ _ s2 s3 s4 _
  refine ⟨300 + a2.size + a3.size + a4.size, ?_⟩
  unfold turnstilelaw6_PinSeals.f
  rw [lawknownK_eq _ (by omega), Option.bind_some, pseal_eq a0 a1 a2 a3 a4 (by omega) (by omega) (by omega), Option.bind_some, rseal_eq a0 a1 a2 a3 a4 (by omega) (by omega) (by omega) _ (by omega), Option.bind_some]
  have hu : ∀ b : ByteArray, pin_Unseal.f a0 a1 b a3 = some (unsealR a0 a1 b a3) ∨ ¬ b.size ≤ 140737488355328 := by
    intro b
    by_cases hb : b.size ≤ 140737488355328
    · left
      unfold pin_Unseal.f
      rw [if_pos ⟨hb, by omega⟩]
    · exact Or.inr hb
  have hs : (sealR a0 a1 a2 a3 a4).1.size ≤ 8 := by
    unfold sealR
    split
    · split
      · exact Nat.le_of_eq (sealN_size _ _ _ _)
      · exact Nat.zero_le _
    · exact Nat.zero_le _
  rw [(hu a5).resolve_right (fun h => h (by omega)), Option.bind_some, runseal_eq a0 a1 a5 a3 (by omega) _ (by omega), Option.bind_some, (hu _).resolve_right (fun h => h (by omega)), Option.bind_some, runseal_eq a0 a1 _ a3 (by omega) _ (by omega), Option.bind_some]
  simp
end Go.Proofs.YtkjjdodnkcmeiaaGreatDoor.PX
