-- Written by px.py of this session, which runs the kit's print with given contracts. Not trusted: Lean checks it.
import Derived.Test.YtkjjdodnkcmeiaaGreatDoorPX0
import Derived.Test.YtkjjdodnkcmeiaaGreatDoorPX22
import Derived.Test.YtkjjdodnkcmeiaaGreatDoorPX24
namespace Go.Proofs.YtkjjdodnkcmeiaaGreatDoor.PX
open Go.RowKit Go.Proofs.YtkjjdodnkcmeiaaGreatDoorW.PrintWords Go.Proofs.YtkjjdodnkcmeiaaGreatDoorW.PrintLast Go.Proofs.YtkjjdodnkcmeiaaGreatDoorW.PrintMore
attribute [local go_sem] max2_int min2_int max_two min_two max_three min_three max_four min_four   -- for this text's walks alone
set_option linter.unusedVariables false
set_option linter.unusedSimpArgs false

/-! ### turnstileref6_Unseal: function 9 -/
def turnstileref6_Unseal.f (k : Nat) (a0 : ByteArray) (a1 : Int) (a2 : ByteArray) (a3 : ByteArray) : Option (ByteArray × Int) := if (a0.size : Int) = 16 then (if (a2.size : Int) = 8 then ((turnstileref3_Turn.f k a0 a2 true).bind fun bt332 => ((turnstileref6_Open.f k a1 bt332.1 a3).bind fun bt334 => (some (bt334.1, bt334.2)))) else (some ((⟨#[]⟩ : ByteArray), 61))) else (some ((⟨#[]⟩ : ByteArray), 30))
set_option maxHeartbeats 8000000 in
set_option maxRecDepth 100000 in
theorem turnstileref6_Unseal.calls (k : Nat) (a0 : ByteArray) (a1 : Int) (a2 : ByteArray) (a3 : ByteArray) (r1 : ByteArray) (r2 : Int) (w : World) (h : turnstileref6_Unseal.f k a0 a1 a2 a3 = some (r1, r2)) :
    Calls Tryz.prog 9 #[.string a0, .int .i64 a1, .string a2, .string a3] w fun e w' => e = .returned (.tuple #[.string r1, .int .i64 r2]) ∧ Below w.heap.size w w' := by
  have HB := Aside0.mk (Below.refl w.heap.size w)
  have H : (if (a0.size : Int) = 16 then (if (a2.size : Int) = 8 then ((turnstileref3_Turn.f k a0 a2 true).bind fun bt332 => ((turnstileref6_Open.f k a1 bt332.1 a3).bind fun bt334 => (some (bt334.1, bt334.2)))) else (some ((⟨#[]⟩ : ByteArray), 61))) else (some ((⟨#[]⟩ : ByteArray), 30))) = some (r1, r2) := h
  clear h
  by_cases c5 : (a0.size : Int) = 16
  · rw [if_pos c5] at H
    have c5b0 : ((a0.size : Int) == 16) = true := beq_iff_eq.mpr c5
    have c5b1 : ((a0.size : Int) != 16) = false := bne_eq_false_iff_eq.mpr c5
    clear c5
    by_cases c6 : (a2.size : Int) = 8
    · rw [if_pos c6] at H
      have c6b0 : ((a2.size : Int) == 8) = true := beq_iff_eq.mpr c6
      have c6b1 : ((a2.size : Int) != 8) = false := bne_eq_false_iff_eq.mpr c6
      clear c6
      replace H := Option.bind_eq_some_iff.mp H
      obtain ⟨⟨t332, t333⟩, A70, H⟩ := H
      replace H : ((turnstileref6_Open.f k a1 t332 a3).bind fun bt334 => (some (bt334.1, bt334.2))) = some (r1, r2) := H
      have A7 := Aside0.mk A70
      clear A70
      replace H := Option.bind_eq_some_iff.mp H
      obtain ⟨⟨t334, t335⟩, A80, H⟩ := H
      replace H : (some (t334, t335)) = some (r1, r2) := H
      have A8 := Aside0.mk A80
      clear A80
      simp only [Option.some.injEq, Prod.mk.injEq] at H
      obtain ⟨rfl, rfl⟩ := H
      go_enter Tryz.func9, Tryz.ntmps9
      go_wp2_with (first | ((with_reducible refine gate_callee (f := 17) rfl ?_); refine goesL_ (some 21) rfl rfl Tryz.func17 (by kernel_rfl) rfl #[.string a0, .string a2, .bool true] rfl (by (try simp only [List.map_toArray, List.map_cons, List.map_nil]); first | done | rfl | (simp only [List.length_drop, List.length_take]; rfl)) ?_; (with_reducible refine (turnstileref3_Turn.calls k a0 a2 true t332 t333 _ A7.out).mono ?_); rintro e w9 ⟨rfl, hb⟩; refine ⟨_, rfl, ?_⟩; have n0_ := Aside0.mk (below_step (by repeat (first | (with_reducible first | exact HB.out | apply below_alloc | apply pw_below_drewN | apply below_drew1) | exact HB.out)) hb); clear HB; have HB := n0_; clear n0_; (try clear hb); (try clear hb2); (try clear hk); (try clear hi)) | ((with_reducible refine gate_callee (f := 19) rfl ?_); refine goesL_ (some 27) rfl rfl Tryz.func19 (by kernel_rfl) rfl #[.int .i64 a1, .string t332, .string a3] rfl (by (try simp only [List.map_toArray, List.map_cons, List.map_nil]); first | done | rfl | (simp only [List.length_drop, List.length_take]; rfl)) ?_; (with_reducible refine (turnstileref6_Open.calls k a1 t332 a3 t334 t335 _ A8.out).mono ?_); rintro e w10 ⟨rfl, hb⟩; refine ⟨_, rfl, ?_⟩; have n0_ := Aside0.mk (below_step (by repeat (first | (with_reducible first | exact HB.out | apply below_alloc | apply pw_below_drewN | apply below_drew1) | exact HB.out)) hb); clear HB; have HB := n0_; clear n0_; (try clear hb); (try clear hb2); (try clear hk); (try clear hi)))
      go_ret2
      exact ⟨by first | rfl | (simp [errW_none, errW_some] <;> rfl) | (simp [*, errW_none, errW_some] <;> rfl), by repeat (first | (with_reducible first | exact HB.out | apply below_alloc | apply pw_below_drewN | apply below_drew1) | exact HB.out)⟩
    · rw [if_neg c6] at H
      have c6b0 : ((a2.size : Int) == 8) = false := beq_eq_false_iff_ne.mpr c6
      have c6b1 : ((a2.size : Int) != 8) = true := bne_iff_ne.mpr c6
      simp only [Option.some.injEq, Prod.mk.injEq] at H
      obtain ⟨rfl, rfl⟩ := H
      go_enter Tryz.func9, Tryz.ntmps9
      go_wp2
      go_ret2
      exact ⟨by first | rfl | (simp [errW_none, errW_some] <;> rfl) | (simp [*, errW_none, errW_some] <;> rfl), by repeat (first | (with_reducible first | exact HB.out | apply below_alloc | apply pw_below_drewN | apply below_drew1) | exact HB.out)⟩
  · rw [if_neg c5] at H
    have c5b0 : ((a0.size : Int) == 16) = false := beq_eq_false_iff_ne.mpr c5
    have c5b1 : ((a0.size : Int) != 16) = true := bne_iff_ne.mpr c5
    simp only [Option.some.injEq, Prod.mk.injEq] at H
    obtain ⟨rfl, rfl⟩ := H
    go_enter Tryz.func9, Tryz.ntmps9
    go_wp2
    go_ret2
    exact ⟨by first | rfl | (simp [errW_none, errW_some] <;> rfl) | (simp [*, errW_none, errW_some] <;> rfl), by repeat (first | (with_reducible first | exact HB.out | apply below_alloc | apply pw_below_drewN | apply below_drew1) | exact HB.out)⟩

end Go.Proofs.YtkjjdodnkcmeiaaGreatDoor.PX
