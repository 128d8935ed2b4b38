/- The pure law of PinMoves. -/
import Derived.Test.YtkjjdodnkcmeiaaGreatDoorPure
import Derived.Test.YtkjjdodnkcmeiaaGreatDoorPX28
namespace Go.Proofs.YtkjjdodnkcmeiaaGreatDoor.PX
open Go.RowKit Go.Proofs.YtkjjdodnkcmeiaaGreatDoorW.PrintWords Go.Proofs.YtkjjdodnkcmeiaaGreatDoorW.PrintLast Go.Proofs.YtkjjdodnkcmeiaaGreatDoorW.PrintMore

theorem turnstilelaw6_PinMoves.pure : turnstilelaw6_PinMoves.Pure := by
  intro a0 a1 a2 a3 a4 a5 a6 _ _ _ _ s4 s5 s6
  refine ⟨300 + a5.size + a6.size + 1, ?_⟩
  have hu : pin_Unseal.f a0 a2 a4 a5 = some (unsealR a0 a2 a4 a5) := by
    unfold pin_Unseal.f
    rw [if_pos ⟨by omega, by omega⟩]
  have hp := unsealR_size a0 a2 a4 a5
  have e1 : pin_Move.f (300 + a5.size + a6.size + 1) a0 a1 a2 a3 a4 a5 a6 = turnstileref6_Move.f (300 + a5.size + a6.size + 1) a0 a1 a2 a3 a4 a5 a6 := by
    have ej : ∀ b : Bool, pin_Move.j0 (300 + a5.size + a6.size + 1) a0 a1 a2 a3 a4 a5 a6 b = turnstileref6_Move.j0 (300 + a5.size + a6.size + 1) a0 a1 a2 a3 a4 a5 a6 b := by
      intro b
      rw [pin_Move.j0.eq_2, turnstileref6_Move.j0.eq_2]
      cases b
      · rw [if_neg (by decide), if_neg (by decide), hu, runseal_eq a0 a2 a4 a5 (by omega) _ (by omega), Option.bind_some, Option.bind_some]
        by_cases h0 : (unsealR a0 a2 a4 a5).2 = 0
        · rw [if_pos h0, if_pos h0, pseal_eq a1 a3 _ a5 a6 (by omega) (by omega) (by omega), rseal_eq a1 a3 _ a5 a6 (by omega) (by omega) (by omega) _ (by omega)]
        · rw [if_neg h0, if_neg h0]
      · rw [if_pos rfl, if_pos rfl]
    unfold pin_Move.f turnstileref6_Move.f
    rw [ej, ej]
  have e2 : ∃ r, turnstileref6_Move.f (300 + a5.size + a6.size + 1) a0 a1 a2 a3 a4 a5 a6 = some r := by
    have ej : ∀ b : Bool, ∃ r, turnstileref6_Move.j0 (300 + a5.size + a6.size + 1) a0 a1 a2 a3 a4 a5 a6 b = some r := by
      intro b
      rw [turnstileref6_Move.j0.eq_2]
      cases b
      · rw [if_neg (by decide), runseal_eq a0 a2 a4 a5 (by omega) _ (by omega), Option.bind_some]
        by_cases h0 : (unsealR a0 a2 a4 a5).2 = 0
        · rw [if_pos h0, rseal_eq a1 a3 _ a5 a6 (by omega) (by omega) (by omega) _ (by omega)]
          exact ⟨_, rfl⟩
        · rw [if_neg h0]
          exact ⟨_, rfl⟩
      · exact ⟨_, rfl⟩
    unfold turnstileref6_Move.f
    split
    · exact ej _
    · exact ej _
  obtain ⟨r, hr⟩ := e2
  unfold turnstilelaw6_PinMoves.f
  rw [lawknownK_eq _ (by omega), Option.bind_some, e1, hr, Option.bind_some, Option.bind_some]
  simp
end Go.Proofs.YtkjjdodnkcmeiaaGreatDoor.PX
