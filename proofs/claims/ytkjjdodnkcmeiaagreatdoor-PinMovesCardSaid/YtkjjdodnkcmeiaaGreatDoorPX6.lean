-- Written by px.py of this session, which runs the kit's print with given contracts. Not trusted: Lean checks it.
import Derived.Test.YtkjjdodnkcmeiaaGreatDoorPX0
import Derived.Test.YtkjjdodnkcmeiaaGreatDoorPX5
import Derived.Test.YtkjjdodnkcmeiaaGreatDoorBlock
namespace Go.Proofs.YtkjjdodnkcmeiaaGreatDoor.PX
open Go.RowKit Go.Proofs.YtkjjdodnkcmeiaaGreatDoorW.PrintWords Go.Proofs.YtkjjdodnkcmeiaaGreatDoorW.PrintLast Go.Proofs.YtkjjdodnkcmeiaaGreatDoorW.PrintMore
attribute [local go_sem] max2_int min2_int max_two min_two max_three min_three max_four min_four   -- for this text's walks alone
set_option linter.unusedVariables false
set_option linter.unusedSimpArgs false

/-! ### turnstilelaw6_known: function 5 -/
def turnstilelaw6_known.f (k : Nat)  : Option (Bool) := (pin_Block.f 0 (⟨#[49, 50, 51, 52]⟩ : ByteArray) (⟨#[52, 51, 50, 49, 57, 56, 55, 54, 53, 52, 51, 50, 49, 48, 57, 56, 55]⟩ : ByteArray) (⟨#[]⟩ : ByteArray)).bind fun bt127 => ((pin_Open.f k 0 bt127.1 (⟨#[52, 51, 50, 49, 57, 56, 55, 54, 53, 52, 51, 50, 49, 48, 57, 56, 55]⟩ : ByteArray)).bind fun bt129 => ((pin_Block.f 1 (⟨#[49, 50, 51, 52]⟩ : ByteArray) (⟨#[]⟩ : ByteArray) (⟨#[48, 49, 50, 51, 52, 53, 54, 55, 56, 57]⟩ : ByteArray)).bind fun bt131 => (if bt127.2 = 0 then (if bt127.1.toList = ([4, 18, 172, 137, 171, 205, 239, 103] : List UInt8) then (if bt129.2 = 0 then (if bt129.1.toList = ([49, 50, 51, 52] : List UInt8) then (if bt131.2 = 0 then (some (bt131.1.toList == ([20, 18, 52, 1, 35, 69, 103, 137] : List UInt8))) else (some false)) else (some false)) else (some false)) else (some false)) else (some false))))
set_option maxHeartbeats 8000000 in
set_option maxRecDepth 100000 in
theorem turnstilelaw6_known.calls (k : Nat)  (r : Bool) (w : World) (h : turnstilelaw6_known.f k  = some r) :
    Calls Tryz.prog 5 #[] w fun e w' => e = .returned (.bool r) ∧ Below w.heap.size w w' := by
  have HB := Aside0.mk (Below.refl w.heap.size w)
  have H : ((pin_Block.f 0 (⟨#[49, 50, 51, 52]⟩ : ByteArray) (⟨#[52, 51, 50, 49, 57, 56, 55, 54, 53, 52, 51, 50, 49, 48, 57, 56, 55]⟩ : ByteArray) (⟨#[]⟩ : ByteArray)).bind fun bt127 => ((pin_Open.f k 0 bt127.1 (⟨#[52, 51, 50, 49, 57, 56, 55, 54, 53, 52, 51, 50, 49, 48, 57, 56, 55]⟩ : ByteArray)).bind fun bt129 => ((pin_Block.f 1 (⟨#[49, 50, 51, 52]⟩ : ByteArray) (⟨#[]⟩ : ByteArray) (⟨#[48, 49, 50, 51, 52, 53, 54, 55, 56, 57]⟩ : ByteArray)).bind fun bt131 => (if bt127.2 = 0 then (if bt127.1.toList = ([4, 18, 172, 137, 171, 205, 239, 103] : List UInt8) then (if bt129.2 = 0 then (if bt129.1.toList = ([49, 50, 51, 52] : List UInt8) then (if bt131.2 = 0 then (some (bt131.1.toList == ([20, 18, 52, 1, 35, 69, 103, 137] : List UInt8))) else (some false)) else (some false)) else (some false)) else (some false)) else (some false))))) = some r := h
  clear h
  replace H := Option.bind_eq_some_iff.mp H
  obtain ⟨⟨t127, t128⟩, A10, H⟩ := H
  replace H : ((pin_Open.f k 0 t127 (⟨#[52, 51, 50, 49, 57, 56, 55, 54, 53, 52, 51, 50, 49, 48, 57, 56, 55]⟩ : ByteArray)).bind fun bt129 => ((pin_Block.f 1 (⟨#[49, 50, 51, 52]⟩ : ByteArray) (⟨#[]⟩ : ByteArray) (⟨#[48, 49, 50, 51, 52, 53, 54, 55, 56, 57]⟩ : ByteArray)).bind fun bt131 => (if t128 = 0 then (if t127.toList = ([4, 18, 172, 137, 171, 205, 239, 103] : List UInt8) then (if bt129.2 = 0 then (if bt129.1.toList = ([49, 50, 51, 52] : List UInt8) then (if bt131.2 = 0 then (some (bt131.1.toList == ([20, 18, 52, 1, 35, 69, 103, 137] : List UInt8))) else (some false)) else (some false)) else (some false)) else (some false)) else (some false)))) = some r := H
  have A1 := Aside0.mk A10
  clear A10
  replace H := Option.bind_eq_some_iff.mp H
  obtain ⟨⟨t129, t130⟩, A20, H⟩ := H
  replace H : ((pin_Block.f 1 (⟨#[49, 50, 51, 52]⟩ : ByteArray) (⟨#[]⟩ : ByteArray) (⟨#[48, 49, 50, 51, 52, 53, 54, 55, 56, 57]⟩ : ByteArray)).bind fun bt131 => (if t128 = 0 then (if t127.toList = ([4, 18, 172, 137, 171, 205, 239, 103] : List UInt8) then (if t130 = 0 then (if t129.toList = ([49, 50, 51, 52] : List UInt8) then (if bt131.2 = 0 then (some (bt131.1.toList == ([20, 18, 52, 1, 35, 69, 103, 137] : List UInt8))) else (some false)) else (some false)) else (some false)) else (some false)) else (some false))) = some r := H
  have A2 := Aside0.mk A20
  clear A20
  replace H := Option.bind_eq_some_iff.mp H
  obtain ⟨⟨t131, t132⟩, A30, H⟩ := H
  replace H : (if t128 = 0 then (if t127.toList = ([4, 18, 172, 137, 171, 205, 239, 103] : List UInt8) then (if t130 = 0 then (if t129.toList = ([49, 50, 51, 52] : List UInt8) then (if t132 = 0 then (some (t131.toList == ([20, 18, 52, 1, 35, 69, 103, 137] : List UInt8))) else (some false)) else (some false)) else (some false)) else (some false)) else (some false)) = some r := H
  have A3 := Aside0.mk A30
  clear A30
  by_cases c4 : t128 = 0
  · rw [if_pos c4] at H
    have c4b0 : (t128 == 0) = true := beq_iff_eq.mpr c4
    have c4b1 : (t128 != 0) = false := bne_eq_false_iff_eq.mpr c4
    clear c4
    by_cases c5 : t127.toList = ([4, 18, 172, 137, 171, 205, 239, 103] : List UInt8)
    · rw [if_pos c5] at H
      have c5b0 : (t127.toList == ([4, 18, 172, 137, 171, 205, 239, 103] : List UInt8)) = true := beq_iff_eq.mpr c5
      have c5b1 : (t127.toList != ([4, 18, 172, 137, 171, 205, 239, 103] : List UInt8)) = false := bne_eq_false_iff_eq.mpr c5
      clear c5
      by_cases c6 : t130 = 0
      · rw [if_pos c6] at H
        have c6b0 : (t130 == 0) = true := beq_iff_eq.mpr c6
        have c6b1 : (t130 != 0) = false := bne_eq_false_iff_eq.mpr c6
        clear c6
        by_cases c7 : t129.toList = ([49, 50, 51, 52] : List UInt8)
        · rw [if_pos c7] at H
          have c7b0 : (t129.toList == ([49, 50, 51, 52] : List UInt8)) = true := beq_iff_eq.mpr c7
          have c7b1 : (t129.toList != ([49, 50, 51, 52] : List UInt8)) = false := bne_eq_false_iff_eq.mpr c7
          clear c7
          by_cases c8 : t132 = 0
          · rw [if_pos c8] at H
            have c8b0 : (t132 == 0) = true := beq_iff_eq.mpr c8
            have c8b1 : (t132 != 0) = false := bne_eq_false_iff_eq.mpr c8
            clear c8
            obtain rfl := Option.some.inj H
            go_enter Tryz.func5, Tryz.ntmps5
            go_wp2_with (first | ((with_reducible refine gate_callee (f := 12) rfl ?_); refine goesL_ (some 8) rfl rfl Tryz.func12 (by kernel_rfl) rfl #[.int .i64 0, .string (⟨#[49, 50, 51, 52]⟩ : ByteArray), .string (⟨#[52, 51, 50, 49, 57, 56, 55, 54, 53, 52, 51, 50, 49, 48, 57, 56, 55]⟩ : ByteArray), .string (⟨#[]⟩ : ByteArray)] rfl (by (try simp only [List.map_toArray, List.map_cons, List.map_nil]); first | done | rfl | (simp only [List.length_drop, List.length_take]; rfl)) ?_; (with_reducible refine (pin_Block.calls 0 (⟨#[49, 50, 51, 52]⟩ : ByteArray) (⟨#[52, 51, 50, 49, 57, 56, 55, 54, 53, 52, 51, 50, 49, 48, 57, 56, 55]⟩ : ByteArray) (⟨#[]⟩ : ByteArray) t127 t128 _ A1.out).mono ?_); rintro e w9 ⟨rfl, hb⟩; refine ⟨_, rfl, ?_⟩; have n0_ := Aside0.mk (below_step (by repeat (first | (with_reducible first | exact HB.out | apply below_alloc | apply pw_below_drewN | apply below_drew1) | exact HB.out)) hb); clear HB; have HB := n0_; clear n0_; (try clear hb); (try clear hb2); (try clear hk); (try clear hi)) | ((with_reducible refine gate_callee (f := 13) rfl ?_); refine goesL_ (some 13) rfl rfl Tryz.func13 (by kernel_rfl) rfl #[.int .i64 0, .string t127, .string (⟨#[52, 51, 50, 49, 57, 56, 55, 54, 53, 52, 51, 50, 49, 48, 57, 56, 55]⟩ : ByteArray)] rfl (by (try simp only [List.map_toArray, List.map_cons, List.map_nil]); first | done | rfl | (simp only [List.length_drop, List.length_take]; rfl)) ?_; (with_reducible refine (pin_Open.calls k 0 t127 (⟨#[52, 51, 50, 49, 57, 56, 55, 54, 53, 52, 51, 50, 49, 48, 57, 56, 55]⟩ : ByteArray) t129 t130 _ A2.out).mono ?_); rintro e w10 ⟨rfl, hb⟩; refine ⟨_, rfl, ?_⟩; have n0_ := Aside0.mk (below_step (by repeat (first | (with_reducible first | exact HB.out | apply below_alloc | apply pw_below_drewN | apply below_drew1) | exact HB.out)) hb); clear HB; have HB := n0_; clear n0_; (try clear hb); (try clear hb2); (try clear hk); (try clear hi)) | ((with_reducible refine gate_callee (f := 12) rfl ?_); refine goesL_ (some 17) rfl rfl Tryz.func12 (by kernel_rfl) rfl #[.int .i64 1, .string (⟨#[49, 50, 51, 52]⟩ : ByteArray), .string (⟨#[]⟩ : ByteArray), .string (⟨#[48, 49, 50, 51, 52, 53, 54, 55, 56, 57]⟩ : ByteArray)] rfl (by (try simp only [List.map_toArray, List.map_cons, List.map_nil]); first | done | rfl | (simp only [List.length_drop, List.length_take]; rfl)) ?_; (with_reducible refine (pin_Block.calls 1 (⟨#[49, 50, 51, 52]⟩ : ByteArray) (⟨#[]⟩ : ByteArray) (⟨#[48, 49, 50, 51, 52, 53, 54, 55, 56, 57]⟩ : ByteArray) t131 t132 _ A3.out).mono ?_); rintro e w11 ⟨rfl, hb⟩; refine ⟨_, rfl, ?_⟩; have n0_ := Aside0.mk (below_step (by repeat (first | (with_reducible first | exact HB.out | apply below_alloc | apply pw_below_drewN | apply below_drew1) | exact HB.out)) hb); clear HB; have HB := n0_; clear n0_; (try clear hb); (try clear hb2); (try clear hk); (try clear hi)))
            go_ret
            exact ⟨by first | rfl | (simp [errW_none, errW_some] <;> rfl) | (simp [*, errW_none, errW_some] <;> rfl), by repeat (first | (with_reducible first | exact HB.out | apply below_alloc | apply pw_below_drewN | apply below_drew1) | exact HB.out)⟩
          · rw [if_neg c8] at H
            have c8b0 : (t132 == 0) = false := beq_eq_false_iff_ne.mpr c8
            have c8b1 : (t132 != 0) = true := bne_iff_ne.mpr c8
            obtain rfl := Option.some.inj H
            go_enter Tryz.func5, Tryz.ntmps5
            go_wp2_with (first | ((with_reducible refine gate_callee (f := 12) rfl ?_); refine goesL_ (some 8) rfl rfl Tryz.func12 (by kernel_rfl) rfl #[.int .i64 0, .string (⟨#[49, 50, 51, 52]⟩ : ByteArray), .string (⟨#[52, 51, 50, 49, 57, 56, 55, 54, 53, 52, 51, 50, 49, 48, 57, 56, 55]⟩ : ByteArray), .string (⟨#[]⟩ : ByteArray)] rfl (by (try simp only [List.map_toArray, List.map_cons, List.map_nil]); first | done | rfl | (simp only [List.length_drop, List.length_take]; rfl)) ?_; (with_reducible refine (pin_Block.calls 0 (⟨#[49, 50, 51, 52]⟩ : ByteArray) (⟨#[52, 51, 50, 49, 57, 56, 55, 54, 53, 52, 51, 50, 49, 48, 57, 56, 55]⟩ : ByteArray) (⟨#[]⟩ : ByteArray) t127 t128 _ A1.out).mono ?_); rintro e w12 ⟨rfl, hb⟩; refine ⟨_, rfl, ?_⟩; have n0_ := Aside0.mk (below_step (by repeat (first | (with_reducible first | exact HB.out | apply below_alloc | apply pw_below_drewN | apply below_drew1) | exact HB.out)) hb); clear HB; have HB := n0_; clear n0_; (try clear hb); (try clear hb2); (try clear hk); (try clear hi)) | ((with_reducible refine gate_callee (f := 13) rfl ?_); refine goesL_ (some 13) rfl rfl Tryz.func13 (by kernel_rfl) rfl #[.int .i64 0, .string t127, .string (⟨#[52, 51, 50, 49, 57, 56, 55, 54, 53, 52, 51, 50, 49, 48, 57, 56, 55]⟩ : ByteArray)] rfl (by (try simp only [List.map_toArray, List.map_cons, List.map_nil]); first | done | rfl | (simp only [List.length_drop, List.length_take]; rfl)) ?_; (with_reducible refine (pin_Open.calls k 0 t127 (⟨#[52, 51, 50, 49, 57, 56, 55, 54, 53, 52, 51, 50, 49, 48, 57, 56, 55]⟩ : ByteArray) t129 t130 _ A2.out).mono ?_); rintro e w13 ⟨rfl, hb⟩; refine ⟨_, rfl, ?_⟩; have n0_ := Aside0.mk (below_step (by repeat (first | (with_reducible first | exact HB.out | apply below_alloc | apply pw_below_drewN | apply below_drew1) | exact HB.out)) hb); clear HB; have HB := n0_; clear n0_; (try clear hb); (try clear hb2); (try clear hk); (try clear hi)) | ((with_reducible refine gate_callee (f := 12) rfl ?_); refine goesL_ (some 17) rfl rfl Tryz.func12 (by kernel_rfl) rfl #[.int .i64 1, .string (⟨#[49, 50, 51, 52]⟩ : ByteArray), .string (⟨#[]⟩ : ByteArray), .string (⟨#[48, 49, 50, 51, 52, 53, 54, 55, 56, 57]⟩ : ByteArray)] rfl (by (try simp only [List.map_toArray, List.map_cons, List.map_nil]); first | done | rfl | (simp only [List.length_drop, List.length_take]; rfl)) ?_; (with_reducible refine (pin_Block.calls 1 (⟨#[49, 50, 51, 52]⟩ : ByteArray) (⟨#[]⟩ : ByteArray) (⟨#[48, 49, 50, 51, 52, 53, 54, 55, 56, 57]⟩ : ByteArray) t131 t132 _ A3.out).mono ?_); rintro e w14 ⟨rfl, hb⟩; refine ⟨_, rfl, ?_⟩; have n0_ := Aside0.mk (below_step (by repeat (first | (with_reducible first | exact HB.out | apply below_alloc | apply pw_below_drewN | apply below_drew1) | exact HB.out)) hb); clear HB; have HB := n0_; clear n0_; (try clear hb); (try clear hb2); (try clear hk); (try clear hi)))
            go_ret
            exact ⟨by first | rfl | (simp [errW_none, errW_some] <;> rfl) | (simp [*, errW_none, errW_some] <;> rfl), by repeat (first | (with_reducible first | exact HB.out | apply below_alloc | apply pw_below_drewN | apply below_drew1) | exact HB.out)⟩
        · rw [if_neg c7] at H
          have c7b0 : (t129.toList == ([49, 50, 51, 52] : List UInt8)) = false := beq_eq_false_iff_ne.mpr c7
          have c7b1 : (t129.toList != ([49, 50, 51, 52] : List UInt8)) = true := bne_iff_ne.mpr c7
          obtain rfl := Option.some.inj H
          go_enter Tryz.func5, Tryz.ntmps5
          go_wp2_with (first | ((with_reducible refine gate_callee (f := 12) rfl ?_); refine goesL_ (some 8) rfl rfl Tryz.func12 (by kernel_rfl) rfl #[.int .i64 0, .string (⟨#[49, 50, 51, 52]⟩ : ByteArray), .string (⟨#[52, 51, 50, 49, 57, 56, 55, 54, 53, 52, 51, 50, 49, 48, 57, 56, 55]⟩ : ByteArray), .string (⟨#[]⟩ : ByteArray)] rfl (by (try simp only [List.map_toArray, List.map_cons, List.map_nil]); first | done | rfl | (simp only [List.length_drop, List.length_take]; rfl)) ?_; (with_reducible refine (pin_Block.calls 0 (⟨#[49, 50, 51, 52]⟩ : ByteArray) (⟨#[52, 51, 50, 49, 57, 56, 55, 54, 53, 52, 51, 50, 49, 48, 57, 56, 55]⟩ : ByteArray) (⟨#[]⟩ : ByteArray) t127 t128 _ A1.out).mono ?_); rintro e w15 ⟨rfl, hb⟩; refine ⟨_, rfl, ?_⟩; have n0_ := Aside0.mk (below_step (by repeat (first | (with_reducible first | exact HB.out | apply below_alloc | apply pw_below_drewN | apply below_drew1) | exact HB.out)) hb); clear HB; have HB := n0_; clear n0_; (try clear hb); (try clear hb2); (try clear hk); (try clear hi)) | ((with_reducible refine gate_callee (f := 13) rfl ?_); refine goesL_ (some 13) rfl rfl Tryz.func13 (by kernel_rfl) rfl #[.int .i64 0, .string t127, .string (⟨#[52, 51, 50, 49, 57, 56, 55, 54, 53, 52, 51, 50, 49, 48, 57, 56, 55]⟩ : ByteArray)] rfl (by (try simp only [List.map_toArray, List.map_cons, List.map_nil]); first | done | rfl | (simp only [List.length_drop, List.length_take]; rfl)) ?_; (with_reducible refine (pin_Open.calls k 0 t127 (⟨#[52, 51, 50, 49, 57, 56, 55, 54, 53, 52, 51, 50, 49, 48, 57, 56, 55]⟩ : ByteArray) t129 t130 _ A2.out).mono ?_); rintro e w16 ⟨rfl, hb⟩; refine ⟨_, rfl, ?_⟩; have n0_ := Aside0.mk (below_step (by repeat (first | (with_reducible first | exact HB.out | apply below_alloc | apply pw_below_drewN | apply below_drew1) | exact HB.out)) hb); clear HB; have HB := n0_; clear n0_; (try clear hb); (try clear hb2); (try clear hk); (try clear hi)) | ((with_reducible refine gate_callee (f := 12) rfl ?_); refine goesL_ (some 17) rfl rfl Tryz.func12 (by kernel_rfl) rfl #[.int .i64 1, .string (⟨#[49, 50, 51, 52]⟩ : ByteArray), .string (⟨#[]⟩ : ByteArray), .string (⟨#[48, 49, 50, 51, 52, 53, 54, 55, 56, 57]⟩ : ByteArray)] rfl (by (try simp only [List.map_toArray, List.map_cons, List.map_nil]); first | done | rfl | (simp only [List.length_drop, List.length_take]; rfl)) ?_; (with_reducible refine (pin_Block.calls 1 (⟨#[49, 50, 51, 52]⟩ : ByteArray) (⟨#[]⟩ : ByteArray) (⟨#[48, 49, 50, 51, 52, 53, 54, 55, 56, 57]⟩ : ByteArray) t131 t132 _ A3.out).mono ?_); rintro e w17 ⟨rfl, hb⟩; refine ⟨_, rfl, ?_⟩; have n0_ := Aside0.mk (below_step (by repeat (first | (with_reducible first | exact HB.out | apply below_alloc | apply pw_below_drewN | apply below_drew1) | exact HB.out)) hb); clear HB; have HB := n0_; clear n0_; (try clear hb); (try clear hb2); (try clear hk); (try clear hi)))
          go_ret
          exact ⟨by first | rfl | (simp [errW_none, errW_some] <;> rfl) | (simp [*, errW_none, errW_some] <;> rfl), by repeat (first | (with_reducible first | exact HB.out | apply below_alloc | apply pw_below_drewN | apply below_drew1) | exact HB.out)⟩
      · rw [if_neg c6] at H
        have c6b0 : (t130 == 0) = false := beq_eq_false_iff_ne.mpr c6
        have c6b1 : (t130 != 0) = true := bne_iff_ne.mpr c6
        obtain rfl := Option.some.inj H
        go_enter Tryz.func5, Tryz.ntmps5
        go_wp2_with (first | ((with_reducible refine gate_callee (f := 12) rfl ?_); refine goesL_ (some 8) rfl rfl Tryz.func12 (by kernel_rfl) rfl #[.int .i64 0, .string (⟨#[49, 50, 51, 52]⟩ : ByteArray), .string (⟨#[52, 51, 50, 49, 57, 56, 55, 54, 53, 52, 51, 50, 49, 48, 57, 56, 55]⟩ : ByteArray), .string (⟨#[]⟩ : ByteArray)] rfl (by (try simp only [List.map_toArray, List.map_cons, List.map_nil]); first | done | rfl | (simp only [List.length_drop, List.length_take]; rfl)) ?_; (with_reducible refine (pin_Block.calls 0 (⟨#[49, 50, 51, 52]⟩ : ByteArray) (⟨#[52, 51, 50, 49, 57, 56, 55, 54, 53, 52, 51, 50, 49, 48, 57, 56, 55]⟩ : ByteArray) (⟨#[]⟩ : ByteArray) t127 t128 _ A1.out).mono ?_); rintro e w18 ⟨rfl, hb⟩; refine ⟨_, rfl, ?_⟩; have n0_ := Aside0.mk (below_step (by repeat (first | (with_reducible first | exact HB.out | apply below_alloc | apply pw_below_drewN | apply below_drew1) | exact HB.out)) hb); clear HB; have HB := n0_; clear n0_; (try clear hb); (try clear hb2); (try clear hk); (try clear hi)) | ((with_reducible refine gate_callee (f := 13) rfl ?_); refine goesL_ (some 13) rfl rfl Tryz.func13 (by kernel_rfl) rfl #[.int .i64 0, .string t127, .string (⟨#[52, 51, 50, 49, 57, 56, 55, 54, 53, 52, 51, 50, 49, 48, 57, 56, 55]⟩ : ByteArray)] rfl (by (try simp only [List.map_toArray, List.map_cons, List.map_nil]); first | done | rfl | (simp only [List.length_drop, List.length_take]; rfl)) ?_; (with_reducible refine (pin_Open.calls k 0 t127 (⟨#[52, 51, 50, 49, 57, 56, 55, 54, 53, 52, 51, 50, 49, 48, 57, 56, 55]⟩ : ByteArray) t129 t130 _ A2.out).mono ?_); rintro e w19 ⟨rfl, hb⟩; refine ⟨_, rfl, ?_⟩; have n0_ := Aside0.mk (below_step (by repeat (first | (with_reducible first | exact HB.out | apply below_alloc | apply pw_below_drewN | apply below_drew1) | exact HB.out)) hb); clear HB; have HB := n0_; clear n0_; (try clear hb); (try clear hb2); (try clear hk); (try clear hi)) | ((with_reducible refine gate_callee (f := 12) rfl ?_); refine goesL_ (some 17) rfl rfl Tryz.func12 (by kernel_rfl) rfl #[.int .i64 1, .string (⟨#[49, 50, 51, 52]⟩ : ByteArray), .string (⟨#[]⟩ : ByteArray), .string (⟨#[48, 49, 50, 51, 52, 53, 54, 55, 56, 57]⟩ : ByteArray)] rfl (by (try simp only [List.map_toArray, List.map_cons, List.map_nil]); first | done | rfl | (simp only [List.length_drop, List.length_take]; rfl)) ?_; (with_reducible refine (pin_Block.calls 1 (⟨#[49, 50, 51, 52]⟩ : ByteArray) (⟨#[]⟩ : ByteArray) (⟨#[48, 49, 50, 51, 52, 53, 54, 55, 56, 57]⟩ : ByteArray) t131 t132 _ A3.out).mono ?_); rintro e w20 ⟨rfl, hb⟩; refine ⟨_, rfl, ?_⟩; have n0_ := Aside0.mk (below_step (by repeat (first | (with_reducible first | exact HB.out | apply below_alloc | apply pw_below_drewN | apply below_drew1) | exact HB.out)) hb); clear HB; have HB := n0_; clear n0_; (try clear hb); (try clear hb2); (try clear hk); (try clear hi)))
        go_ret
        exact ⟨by first | rfl | (simp [errW_none, errW_some] <;> rfl) | (simp [*, errW_none, errW_some] <;> rfl), by repeat (first | (with_reducible first | exact HB.out | apply below_alloc | apply pw_below_drewN | apply below_drew1) | exact HB.out)⟩
    · rw [if_neg c5] at H
      have c5b0 : (t127.toList == ([4, 18, 172, 137, 171, 205, 239, 103] : List UInt8)) = false := beq_eq_false_iff_ne.mpr c5
      have c5b1 : (t127.toList != ([4, 18, 172, 137, 171, 205, 239, 103] : List UInt8)) = true := bne_iff_ne.mpr c5
      obtain rfl := Option.some.inj H
      go_enter Tryz.func5, Tryz.ntmps5
      go_wp2_with (first | ((with_reducible refine gate_callee (f := 12) rfl ?_); refine goesL_ (some 8) rfl rfl Tryz.func12 (by kernel_rfl) rfl #[.int .i64 0, .string (⟨#[49, 50, 51, 52]⟩ : ByteArray), .string (⟨#[52, 51, 50, 49, 57, 56, 55, 54, 53, 52, 51, 50, 49, 48, 57, 56, 55]⟩ : ByteArray), .string (⟨#[]⟩ : ByteArray)] rfl (by (try simp only [List.map_toArray, List.map_cons, List.map_nil]); first | done | rfl | (simp only [List.length_drop, List.length_take]; rfl)) ?_; (with_reducible refine (pin_Block.calls 0 (⟨#[49, 50, 51, 52]⟩ : ByteArray) (⟨#[52, 51, 50, 49, 57, 56, 55, 54, 53, 52, 51, 50, 49, 48, 57, 56, 55]⟩ : ByteArray) (⟨#[]⟩ : ByteArray) t127 t128 _ A1.out).mono ?_); rintro e w21 ⟨rfl, hb⟩; refine ⟨_, rfl, ?_⟩; have n0_ := Aside0.mk (below_step (by repeat (first | (with_reducible first | exact HB.out | apply below_alloc | apply pw_below_drewN | apply below_drew1) | exact HB.out)) hb); clear HB; have HB := n0_; clear n0_; (try clear hb); (try clear hb2); (try clear hk); (try clear hi)) | ((with_reducible refine gate_callee (f := 13) rfl ?_); refine goesL_ (some 13) rfl rfl Tryz.func13 (by kernel_rfl) rfl #[.int .i64 0, .string t127, .string (⟨#[52, 51, 50, 49, 57, 56, 55, 54, 53, 52, 51, 50, 49, 48, 57, 56, 55]⟩ : ByteArray)] rfl (by (try simp only [List.map_toArray, List.map_cons, List.map_nil]); first | done | rfl | (simp only [List.length_drop, List.length_take]; rfl)) ?_; (with_reducible refine (pin_Open.calls k 0 t127 (⟨#[52, 51, 50, 49, 57, 56, 55, 54, 53, 52, 51, 50, 49, 48, 57, 56, 55]⟩ : ByteArray) t129 t130 _ A2.out).mono ?_); rintro e w22 ⟨rfl, hb⟩; refine ⟨_, rfl, ?_⟩; have n0_ := Aside0.mk (below_step (by repeat (first | (with_reducible first | exact HB.out | apply below_alloc | apply pw_below_drewN | apply below_drew1) | exact HB.out)) hb); clear HB; have HB := n0_; clear n0_; (try clear hb); (try clear hb2); (try clear hk); (try clear hi)) | ((with_reducible refine gate_callee (f := 12) rfl ?_); refine goesL_ (some 17) rfl rfl Tryz.func12 (by kernel_rfl) rfl #[.int .i64 1, .string (⟨#[49, 50, 51, 52]⟩ : ByteArray), .string (⟨#[]⟩ : ByteArray), .string (⟨#[48, 49, 50, 51, 52, 53, 54, 55, 56, 57]⟩ : ByteArray)] rfl (by (try simp only [List.map_toArray, List.map_cons, List.map_nil]); first | done | rfl | (simp only [List.length_drop, List.length_take]; rfl)) ?_; (with_reducible refine (pin_Block.calls 1 (⟨#[49, 50, 51, 52]⟩ : ByteArray) (⟨#[]⟩ : ByteArray) (⟨#[48, 49, 50, 51, 52, 53, 54, 55, 56, 57]⟩ : ByteArray) t131 t132 _ A3.out).mono ?_); rintro e w23 ⟨rfl, hb⟩; refine ⟨_, rfl, ?_⟩; have n0_ := Aside0.mk (below_step (by repeat (first | (with_reducible first | exact HB.out | apply below_alloc | apply pw_below_drewN | apply below_drew1) | exact HB.out)) hb); clear HB; have HB := n0_; clear n0_; (try clear hb); (try clear hb2); (try clear hk); (try clear hi)))
      go_ret
      exact ⟨by first | rfl | (simp [errW_none, errW_some] <;> rfl) | (simp [*, errW_none, errW_some] <;> rfl), by repeat (first | (with_reducible first | exact HB.out | apply below_alloc | apply pw_below_drewN | apply below_drew1) | exact HB.out)⟩
  · rw [if_neg c4] at H
    have c4b0 : (t128 == 0) = false := beq_eq_false_iff_ne.mpr c4
    have c4b1 : (t128 != 0) = true := bne_iff_ne.mpr c4
    obtain rfl := Option.some.inj H
    go_enter Tryz.func5, Tryz.ntmps5
    go_wp2_with (first | ((with_reducible refine gate_callee (f := 12) rfl ?_); refine goesL_ (some 8) rfl rfl Tryz.func12 (by kernel_rfl) rfl #[.int .i64 0, .string (⟨#[49, 50, 51, 52]⟩ : ByteArray), .string (⟨#[52, 51, 50, 49, 57, 56, 55, 54, 53, 52, 51, 50, 49, 48, 57, 56, 55]⟩ : ByteArray), .string (⟨#[]⟩ : ByteArray)] rfl (by (try simp only [List.map_toArray, List.map_cons, List.map_nil]); first | done | rfl | (simp only [List.length_drop, List.length_take]; rfl)) ?_; (with_reducible refine (pin_Block.calls 0 (⟨#[49, 50, 51, 52]⟩ : ByteArray) (⟨#[52, 51, 50, 49, 57, 56, 55, 54, 53, 52, 51, 50, 49, 48, 57, 56, 55]⟩ : ByteArray) (⟨#[]⟩ : ByteArray) t127 t128 _ A1.out).mono ?_); rintro e w24 ⟨rfl, hb⟩; refine ⟨_, rfl, ?_⟩; have n0_ := Aside0.mk (below_step (by repeat (first | (with_reducible first | exact HB.out | apply below_alloc | apply pw_below_drewN | apply below_drew1) | exact HB.out)) hb); clear HB; have HB := n0_; clear n0_; (try clear hb); (try clear hb2); (try clear hk); (try clear hi)) | ((with_reducible refine gate_callee (f := 13) rfl ?_); refine goesL_ (some 13) rfl rfl Tryz.func13 (by kernel_rfl) rfl #[.int .i64 0, .string t127, .string (⟨#[52, 51, 50, 49, 57, 56, 55, 54, 53, 52, 51, 50, 49, 48, 57, 56, 55]⟩ : ByteArray)] rfl (by (try simp only [List.map_toArray, List.map_cons, List.map_nil]); first | done | rfl | (simp only [List.length_drop, List.length_take]; rfl)) ?_; (with_reducible refine (pin_Open.calls k 0 t127 (⟨#[52, 51, 50, 49, 57, 56, 55, 54, 53, 52, 51, 50, 49, 48, 57, 56, 55]⟩ : ByteArray) t129 t130 _ A2.out).mono ?_); rintro e w25 ⟨rfl, hb⟩; refine ⟨_, rfl, ?_⟩; have n0_ := Aside0.mk (below_step (by repeat (first | (with_reducible first | exact HB.out | apply below_alloc | apply pw_below_drewN | apply below_drew1) | exact HB.out)) hb); clear HB; have HB := n0_; clear n0_; (try clear hb); (try clear hb2); (try clear hk); (try clear hi)) | ((with_reducible refine gate_callee (f := 12) rfl ?_); refine goesL_ (some 17) rfl rfl Tryz.func12 (by kernel_rfl) rfl #[.int .i64 1, .string (⟨#[49, 50, 51, 52]⟩ : ByteArray), .string (⟨#[]⟩ : ByteArray), .string (⟨#[48, 49, 50, 51, 52, 53, 54, 55, 56, 57]⟩ : ByteArray)] rfl (by (try simp only [List.map_toArray, List.map_cons, List.map_nil]); first | done | rfl | (simp only [List.length_drop, List.length_take]; rfl)) ?_; (with_reducible refine (pin_Block.calls 1 (⟨#[49, 50, 51, 52]⟩ : ByteArray) (⟨#[]⟩ : ByteArray) (⟨#[48, 49, 50, 51, 52, 53, 54, 55, 56, 57]⟩ : ByteArray) t131 t132 _ A3.out).mono ?_); rintro e w26 ⟨rfl, hb⟩; refine ⟨_, rfl, ?_⟩; have n0_ := Aside0.mk (below_step (by repeat (first | (with_reducible first | exact HB.out | apply below_alloc | apply pw_below_drewN | apply below_drew1) | exact HB.out)) hb); clear HB; have HB := n0_; clear n0_; (try clear hb); (try clear hb2); (try clear hk); (try clear hi)))
    go_ret
    exact ⟨by first | rfl | (simp [errW_none, errW_some] <;> rfl) | (simp [*, errW_none, errW_some] <;> rfl), by repeat (first | (with_reducible first | exact HB.out | apply below_alloc | apply pw_below_drewN | apply below_drew1) | exact HB.out)⟩

/-! ### cipher_take: function 78 -/
def cipher_take.l0 : Nat → Int → Int → Int → List Int → Int → Int → Option (Int)
  | 0, _, _, _, _, _, _ => none
  | k + 1, x1, x2, x7, x10, x11, x12 => if x12 < x11 then (if 0 ≤ x12 then (if x12 < (x10.length : Int) then (if 0 ≤ (wrap64 (x2 - (wrap64 (rd x10 x12)))) then (cipher_take.l0 k x1 x2 (Go.bits .or .u64 (IntKind.u64.wrap (x7 * 2)) (Go.bits .and .u64 (shr .u64 x1 (wrap64 (x2 - (wrap64 (rd x10 x12))))) 1)) x10 x11 (wrap64 (x12 + 1))) else (none)) else (none)) else (none)) else (some x7)
def cipher_take.f (k : Nat) (l0 : List Int) (a1 : Int) (a2 : Int) : Option (Int) := cipher_take.l0 k a1 a2 0 l0 (l0.length : Int) 0
set_option maxHeartbeats 8000000 in
set_option maxRecDepth 100000 in
theorem cipher_take.calls (k : Nat) (A0 : Option Addr) (c0 : Nat) (l0 : List Int) (a1 : Int) (a2 : Int) (r : Int) (w : World) (hr0 : Kd.C (Kd.int .u8) w A0 l0.length l0) (hc0 : l0.length ≤ c0) (h : cipher_take.f k l0 a1 a2 = some r) :
    Calls Tryz.prog 78 #[.slice A0 l0.length c0, .int .u64 a1, .int .i64 a2] w fun e w' => e = .returned (.int .u64 r) ∧ Drawn0 w w' := by
  have HR0 := Aside0.mk hr0
  have HC0 := Aside0.mk hc0
  clear hr0 hc0
  have H : (cipher_take.l0 k a1 a2 0 l0 (l0.length : Int) 0) = some r := h
  clear h
  have H' := Aside0.mk H
  clear H
  go_enter Tryz.func78, Tryz.ntmps78
  go_wp2
  go_loopg [7, 12] k (fun kq v7 v12 w' => ∃ (x7_1 : Int) (x12_1 : Int), v7 = .int .u64 x7_1 ∧ v12 = .int .i64 x12_1 ∧ Aside0 (cipher_take.l0 kq a1 a2 x7_1 l0 (l0.length : Int) x12_1 = some r) ∧ Aside0 (kq ≤ k) ∧ Drawn0 w w')
  case atStart => exact ⟨(0), (0), (by first | rfl | (simp; done) | (simp [*]; done)), (by first | rfl | (simp; done) | (simp [*]; done)), H', ⟨Nat.le_refl _⟩, by repeat (first | exact Drawn0.refl _ | apply Drawn0.step)⟩
  case round =>
    clear H'
    try clear p2
    obtain ⟨x7_1, x12_1, rfl, rfl, HA, HK1, ⟨m1, rfl⟩⟩ := hrel
    cases gk with
    | zero => exact absurd HA.out (by simp [cipher_take.l0])
    | succ k1 =>
      have H := HA.out
      clear HA
      simp only [cipher_take.l0] at H
      by_cases c4 : x12_1 < (l0.length : Int)
      · rw [if_pos c4] at H
        have c4b0 : decide (x12_1 < (l0.length : Int)) = true := decide_eq_true c4
        clear c4
        by_cases c5 : 0 ≤ x12_1
        · rw [if_pos c5] at H
          have c5b0 : decide (0 ≤ x12_1) = true := decide_eq_true c5
          clear c5
          by_cases c6 : x12_1 < (l0.length : Int)
          · rw [if_pos c6] at H
            have c6b0 : decide (x12_1 < (l0.length : Int)) = true := decide_eq_true c6
            clear c6
            obtain ⟨ji7, hji7⟩ : ∃ j_ : Int, (wrap64 (a2 - (wrap64 (rd l0 x12_1)))) = j_ := ⟨_, rfl⟩
            replace H : (if 0 ≤ (ji7) then (cipher_take.l0 k1 a1 a2 (Go.bits .or .u64 (IntKind.u64.wrap (x7_1 * 2)) (Go.bits .and .u64 (shr .u64 a1 (ji7)) 1)) l0 (l0.length : Int) (wrap64 (x12_1 + 1))) else (none)) = some r := by first | (rw [hji7] at H; exact H) | (simp only [hji7] at H ⊢; exact H)
            have hji7w : (IntKind.i64.wrap (a2 - (wrap64 (rd l0 x12_1)))) = ji7 := (i64_w _).trans hji7
            by_cases c8 : 0 ≤ (ji7)
            · rw [if_pos c8] at H
              have c8b0 := eq_true c8
              have c8b1 : decide (0 ≤ (ji7)) = true := decide_eq_true c8
              clear c8
              obtain ⟨ji9, hji9⟩ : ∃ j_ : Int, (shr .u64 a1 (ji7)) = j_ := ⟨_, rfl⟩
              replace H : (cipher_take.l0 k1 a1 a2 (Go.bits .or .u64 (IntKind.u64.wrap (x7_1 * 2)) (Go.bits .and .u64 (ji9) 1)) l0 (l0.length : Int) (wrap64 (x12_1 + 1))) = some r := by first | (rw [hji9] at H; exact H) | (simp only [hji9] at H ⊢; exact H)
              have hji9_ : (a1 / 2 ^ min (ji7).toNat 64) = ji9 := hji9
              have hji9z : (ji7) ≤ 64 → (a1 / 2 ^ (ji7).toNat) = ji9 := shr_small hji9
              have H' := Aside0.mk H
              clear H
              have p133 : 0 ≤ (x12_1 : Int) := of_decide_eq_true (by first | (with_reducible assumption) | assumption)
              have q133 : x12_1 < (l0.length : Int) := of_decide_eq_true (by first | (with_reducible assumption) | assumption)
              obtain ⟨ad133, e133, hx133_0⟩ := Kd.at_int HR0.out x12_1 p133 q133
              cases e133
              replace p133 := eq_true p133
              replace q133 := eq_true q133
              go_wp2
              go_roundg k1
              case measure => have := HK1.out; omega
              case rel => exact ⟨(Go.bits .or .u64 (IntKind.u64.wrap (x7_1 * 2)) (Go.bits .and .u64 (ji9) 1)), (wrap64 (x12_1 + 1)), (by first | rfl | (simp; done) | (simp only [← hji9] <;> (first | rfl | simp)) | (simp [*]; done)), (by first | rfl | (simp; done) | (simp [*]; done)), H', ⟨by have := HK1.out; omega⟩, by repeat (first | exact Drawn0.refl _ | apply Drawn0.step)⟩
            · rw [if_neg c8] at H
              exact absurd H (by simp)
          · rw [if_neg c6] at H
            exact absurd H (by simp)
        · rw [if_neg c5] at H
          exact absurd H (by simp)
      · rw [if_neg c4] at H
        have c4b0 : decide (x12_1 < (l0.length : Int)) = false := decide_eq_false c4
        clear c4
        obtain rfl := Option.some.inj H
        go_wp2
        go_ret
        exact ⟨by first | rfl | (simp; done) | (simp [*]; done), by repeat (first | exact Drawn0.refl _ | apply Drawn0.step)⟩

/-! ### bits_RotateLeft32: function 100 -/
def bits_RotateLeft32.f (a0 : Int) (a1 : Int) : Option (Int) := if 0 ≤ (Go.bits .and .u64 (IntKind.u64.wrap (a1)) 31) then (if 0 ≤ (IntKind.u64.wrap (32 - (Go.bits .and .u64 (IntKind.u64.wrap (a1)) 31))) then (some (Go.bits .or .u32 (shl .u32 a0 (Go.bits .and .u64 (IntKind.u64.wrap (a1)) 31)) (shr .u32 a0 (IntKind.u64.wrap (32 - (Go.bits .and .u64 (IntKind.u64.wrap (a1)) 31)))))) else (none)) else (none)
set_option maxHeartbeats 8000000 in
set_option maxRecDepth 100000 in
theorem bits_RotateLeft32.calls (a0 : Int) (a1 : Int) (r : Int) (w : World) (h : bits_RotateLeft32.f a0 a1 = some r) :
    Calls Tryz.prog 100 #[.int .u32 a0, .int .i64 a1] w fun e w' => e = .returned (.int .u32 r) ∧ Drawn0 w w' := by
  have H : (if 0 ≤ (Go.bits .and .u64 (IntKind.u64.wrap (a1)) 31) then (if 0 ≤ (IntKind.u64.wrap (32 - (Go.bits .and .u64 (IntKind.u64.wrap (a1)) 31))) then (some (Go.bits .or .u32 (shl .u32 a0 (Go.bits .and .u64 (IntKind.u64.wrap (a1)) 31)) (shr .u32 a0 (IntKind.u64.wrap (32 - (Go.bits .and .u64 (IntKind.u64.wrap (a1)) 31)))))) else (none)) else (none)) = some r := h
  clear h
  obtain ⟨ji3, hji3⟩ : ∃ j_ : Int, (Go.bits .and .u64 (IntKind.u64.wrap (a1)) 31) = j_ := ⟨_, rfl⟩
  replace H : (if 0 ≤ (ji3) then (if 0 ≤ (IntKind.u64.wrap (32 - (ji3))) then (some (Go.bits .or .u32 (shl .u32 a0 (ji3)) (shr .u32 a0 (IntKind.u64.wrap (32 - (ji3)))))) else (none)) else (none)) = some r := by first | (rw [hji3] at H; exact H) | (simp only [hji3] at H ⊢; exact H)
  by_cases c4 : 0 ≤ (ji3)
  · rw [if_pos c4] at H
    have c4b0 := eq_true c4
    have c4b1 : decide (0 ≤ (ji3)) = true := decide_eq_true c4
    clear c4
    obtain ⟨ji5, hji5⟩ : ∃ j_ : Int, (shl .u32 a0 (ji3)) = j_ := ⟨_, rfl⟩
    replace H : (if 0 ≤ (IntKind.u64.wrap (32 - (ji3))) then (some (Go.bits .or .u32 (ji5) (shr .u32 a0 (IntKind.u64.wrap (32 - (ji3)))))) else (none)) = some r := by first | (rw [hji5] at H; exact H) | (simp only [hji5] at H ⊢; exact H)
    have hji5_ : (IntKind.u32.wrap (a0 * 2 ^ min (ji3).toNat 32)) = ji5 := hji5
    have hji5z : (ji3) ≤ 32 → (IntKind.u32.wrap (a0 * 2 ^ (ji3).toNat)) = ji5 := shl_small hji5
    obtain ⟨ji6, hji6⟩ : ∃ j_ : Int, (IntKind.u64.wrap (32 - (ji3))) = j_ := ⟨_, rfl⟩
    replace H : (if 0 ≤ (ji6) then (some (Go.bits .or .u32 (ji5) (shr .u32 a0 (ji6)))) else (none)) = some r := by first | (rw [hji6] at H; exact H) | (simp only [hji6] at H ⊢; exact H)
    by_cases c7 : 0 ≤ (ji6)
    · rw [if_pos c7] at H
      have c7b0 := eq_true c7
      have c7b1 : decide (0 ≤ (ji6)) = true := decide_eq_true c7
      clear c7
      obtain ⟨ji8, hji8⟩ : ∃ j_ : Int, (shr .u32 a0 (ji6)) = j_ := ⟨_, rfl⟩
      replace H : (some (Go.bits .or .u32 (ji5) (ji8))) = some r := by first | (rw [hji8] at H; exact H) | (simp only [hji8] at H ⊢; exact H)
      have hji8_ : (a0 / 2 ^ min (ji6).toNat 32) = ji8 := hji8
      have hji8z : (ji6) ≤ 32 → (a0 / 2 ^ (ji6).toNat) = ji8 := shr_small hji8
      obtain rfl := Option.some.inj H
      go_enter Tryz.func100, Tryz.ntmps100
      go_wp2
      go_ret
      exact ⟨by first | rfl | (simp; done) | (simp only [← hji3, ← hji5, ← hji6, ← hji8] <;> (first | rfl | simp)) | (simp [*]; done), by repeat (first | exact Drawn0.refl _ | apply Drawn0.step)⟩
    · rw [if_neg c7] at H
      exact absurd H (by simp)
  · rw [if_neg c4] at H
    exact absurd H (by simp)

/-! ### cipher_sixteenth: function 101 -/
def cipher_sixteenth.f (a0 : Int) : Option (Int) := if a0 ≥ 97 then (some (((a0 - 97) % 256) + 10)) else (some ((a0 - 48) % 256))
set_option maxHeartbeats 8000000 in
set_option maxRecDepth 100000 in
theorem cipher_sixteenth.calls (a0 : Int) (r : Int) (w : World) (h : cipher_sixteenth.f a0 = some r) :
    Calls Tryz.prog 101 #[.int .u8 a0] w fun e w' => e = .returned (.int .u64 r) ∧ Drawn0 w w' := by
  have H : (if a0 ≥ 97 then (some (((a0 - 97) % 256) + 10)) else (some ((a0 - 48) % 256))) = some r := h
  clear h
  by_cases c2 : a0 ≥ 97
  · rw [if_pos c2] at H
    have c2b0 : decide (97 ≤ a0) = true := decide_eq_true c2
    clear c2
    obtain rfl := Option.some.inj H
    go_enter Tryz.func101, Tryz.ntmps101
    go_wp2
    go_ret
    exact ⟨by first | rfl | (simp; done) | (simp [*]; done), by repeat (first | exact Drawn0.refl _ | apply Drawn0.step)⟩
  · rw [if_neg c2] at H
    have c2b0 : decide (97 ≤ a0) = false := decide_eq_false c2
    clear c2
    obtain rfl := Option.some.inj H
    go_enter Tryz.func101, Tryz.ntmps101
    go_wp2
    go_ret
    exact ⟨by first | rfl | (simp; done) | (simp [*]; done), by repeat (first | exact Drawn0.refl _ | apply Drawn0.step)⟩

/-! ### cipher_box: function 102 -/
def cipher_box.f (a0 : Int) : Option (ByteArray) := if a0 = 0 then (some (⟨#[101, 52, 100, 49, 50, 102, 98, 56, 51, 97, 54, 99, 53, 57, 48, 55, 48, 102, 55, 52, 101, 50, 100, 49, 97, 54, 99, 98, 57, 53, 51, 56, 52, 49, 101, 56, 100, 54, 50, 98, 102, 99, 57, 55, 51, 97, 53, 48, 102, 99, 56, 50, 52, 57, 49, 55, 53, 98, 51, 101, 97, 48, 54, 100]⟩ : ByteArray)) else (if a0 = 1 then (some (⟨#[102, 49, 56, 101, 54, 98, 51, 52, 57, 55, 50, 100, 99, 48, 53, 97, 51, 100, 52, 55, 102, 50, 56, 101, 99, 48, 49, 97, 54, 57, 98, 53, 48, 101, 55, 98, 97, 52, 100, 49, 53, 56, 99, 54, 57, 51, 50, 102, 100, 56, 97, 49, 51, 102, 52, 50, 98, 54, 55, 99, 48, 53, 101, 57]⟩ : ByteArray)) else (if a0 = 2 then (some (⟨#[97, 48, 57, 101, 54, 51, 102, 53, 49, 100, 99, 55, 98, 52, 50, 56, 100, 55, 48, 57, 51, 52, 54, 97, 50, 56, 53, 101, 99, 98, 102, 49, 100, 54, 52, 57, 56, 102, 51, 48, 98, 49, 50, 99, 53, 97, 101, 55, 49, 97, 100, 48, 54, 57, 56, 55, 52, 102, 101, 51, 98, 53, 50, 99]⟩ : ByteArray)) else (if a0 = 3 then (some (⟨#[55, 100, 101, 51, 48, 54, 57, 97, 49, 50, 56, 53, 98, 99, 52, 102, 100, 56, 98, 53, 54, 102, 48, 51, 52, 55, 50, 99, 49, 97, 101, 57, 97, 54, 57, 48, 99, 98, 55, 100, 102, 49, 51, 101, 53, 50, 56, 52, 51, 102, 48, 54, 97, 49, 100, 56, 57, 52, 53, 98, 99, 55, 50, 101]⟩ : ByteArray)) else (if a0 = 4 then (some (⟨#[50, 99, 52, 49, 55, 97, 98, 54, 56, 53, 51, 102, 100, 48, 101, 57, 101, 98, 50, 99, 52, 55, 100, 49, 53, 48, 102, 97, 51, 57, 56, 54, 52, 50, 49, 98, 97, 100, 55, 56, 102, 57, 99, 53, 54, 51, 48, 101, 98, 56, 99, 55, 49, 101, 50, 100, 54, 102, 48, 57, 97, 52, 53, 51]⟩ : ByteArray)) else (if a0 = 5 then (some (⟨#[99, 49, 97, 102, 57, 50, 54, 56, 48, 100, 51, 52, 101, 55, 53, 98, 97, 102, 52, 50, 55, 99, 57, 53, 54, 49, 100, 101, 48, 98, 51, 56, 57, 101, 102, 53, 50, 56, 99, 51, 55, 48, 52, 97, 49, 100, 98, 54, 52, 51, 50, 99, 57, 53, 102, 97, 98, 101, 49, 55, 54, 48, 56, 100]⟩ : ByteArray)) else (if a0 = 6 then (some (⟨#[52, 98, 50, 101, 102, 48, 56, 100, 51, 99, 57, 55, 53, 97, 54, 49, 100, 48, 98, 55, 52, 57, 49, 97, 101, 51, 53, 99, 50, 102, 56, 54, 49, 52, 98, 100, 99, 51, 55, 101, 97, 102, 54, 56, 48, 53, 57, 50, 54, 98, 100, 56, 49, 52, 97, 55, 57, 53, 48, 102, 101, 50, 51, 99]⟩ : ByteArray)) else (some (⟨#[100, 50, 56, 52, 54, 102, 98, 49, 97, 57, 51, 101, 53, 48, 99, 55, 49, 102, 100, 56, 97, 51, 55, 52, 99, 53, 54, 98, 48, 101, 57, 50, 55, 98, 52, 49, 57, 99, 101, 50, 48, 54, 97, 100, 102, 51, 53, 56, 50, 49, 101, 55, 52, 97, 56, 100, 102, 99, 57, 48, 51, 53, 54, 98]⟩ : ByteArray))))))))
set_option maxHeartbeats 8000000 in
set_option maxRecDepth 100000 in
theorem cipher_box.calls (a0 : Int) (r : ByteArray) (w : World) (h : cipher_box.f a0 = some r) :
    Calls Tryz.prog 102 #[.int .i64 a0] w fun e w' => e = .returned (.string r) ∧ Drawn0 w w' := by
  have H : (if a0 = 0 then (some (⟨#[101, 52, 100, 49, 50, 102, 98, 56, 51, 97, 54, 99, 53, 57, 48, 55, 48, 102, 55, 52, 101, 50, 100, 49, 97, 54, 99, 98, 57, 53, 51, 56, 52, 49, 101, 56, 100, 54, 50, 98, 102, 99, 57, 55, 51, 97, 53, 48, 102, 99, 56, 50, 52, 57, 49, 55, 53, 98, 51, 101, 97, 48, 54, 100]⟩ : ByteArray)) else (if a0 = 1 then (some (⟨#[102, 49, 56, 101, 54, 98, 51, 52, 57, 55, 50, 100, 99, 48, 53, 97, 51, 100, 52, 55, 102, 50, 56, 101, 99, 48, 49, 97, 54, 57, 98, 53, 48, 101, 55, 98, 97, 52, 100, 49, 53, 56, 99, 54, 57, 51, 50, 102, 100, 56, 97, 49, 51, 102, 52, 50, 98, 54, 55, 99, 48, 53, 101, 57]⟩ : ByteArray)) else (if a0 = 2 then (some (⟨#[97, 48, 57, 101, 54, 51, 102, 53, 49, 100, 99, 55, 98, 52, 50, 56, 100, 55, 48, 57, 51, 52, 54, 97, 50, 56, 53, 101, 99, 98, 102, 49, 100, 54, 52, 57, 56, 102, 51, 48, 98, 49, 50, 99, 53, 97, 101, 55, 49, 97, 100, 48, 54, 57, 56, 55, 52, 102, 101, 51, 98, 53, 50, 99]⟩ : ByteArray)) else (if a0 = 3 then (some (⟨#[55, 100, 101, 51, 48, 54, 57, 97, 49, 50, 56, 53, 98, 99, 52, 102, 100, 56, 98, 53, 54, 102, 48, 51, 52, 55, 50, 99, 49, 97, 101, 57, 97, 54, 57, 48, 99, 98, 55, 100, 102, 49, 51, 101, 53, 50, 56, 52, 51, 102, 48, 54, 97, 49, 100, 56, 57, 52, 53, 98, 99, 55, 50, 101]⟩ : ByteArray)) else (if a0 = 4 then (some (⟨#[50, 99, 52, 49, 55, 97, 98, 54, 56, 53, 51, 102, 100, 48, 101, 57, 101, 98, 50, 99, 52, 55, 100, 49, 53, 48, 102, 97, 51, 57, 56, 54, 52, 50, 49, 98, 97, 100, 55, 56, 102, 57, 99, 53, 54, 51, 48, 101, 98, 56, 99, 55, 49, 101, 50, 100, 54, 102, 48, 57, 97, 52, 53, 51]⟩ : ByteArray)) else (if a0 = 5 then (some (⟨#[99, 49, 97, 102, 57, 50, 54, 56, 48, 100, 51, 52, 101, 55, 53, 98, 97, 102, 52, 50, 55, 99, 57, 53, 54, 49, 100, 101, 48, 98, 51, 56, 57, 101, 102, 53, 50, 56, 99, 51, 55, 48, 52, 97, 49, 100, 98, 54, 52, 51, 50, 99, 57, 53, 102, 97, 98, 101, 49, 55, 54, 48, 56, 100]⟩ : ByteArray)) else (if a0 = 6 then (some (⟨#[52, 98, 50, 101, 102, 48, 56, 100, 51, 99, 57, 55, 53, 97, 54, 49, 100, 48, 98, 55, 52, 57, 49, 97, 101, 51, 53, 99, 50, 102, 56, 54, 49, 52, 98, 100, 99, 51, 55, 101, 97, 102, 54, 56, 48, 53, 57, 50, 54, 98, 100, 56, 49, 52, 97, 55, 57, 53, 48, 102, 101, 50, 51, 99]⟩ : ByteArray)) else (some (⟨#[100, 50, 56, 52, 54, 102, 98, 49, 97, 57, 51, 101, 53, 48, 99, 55, 49, 102, 100, 56, 97, 51, 55, 52, 99, 53, 54, 98, 48, 101, 57, 50, 55, 98, 52, 49, 57, 99, 101, 50, 48, 54, 97, 100, 102, 51, 53, 56, 50, 49, 101, 55, 52, 97, 56, 100, 102, 99, 57, 48, 51, 53, 54, 98]⟩ : ByteArray))))))))) = some r := h
  clear h
  by_cases c2 : a0 = 0
  · rw [if_pos c2] at H
    have c2b0 : (a0 == 0) = true := beq_iff_eq.mpr c2
    have c2b1 : (a0 != 0) = false := bne_eq_false_iff_eq.mpr c2
    clear c2
    obtain rfl := Option.some.inj H
    go_enter Tryz.func102, Tryz.ntmps102
    go_wp2
    go_ret
    exact ⟨by first | rfl | (simp; done) | (simp [*]; done), by repeat (first | exact Drawn0.refl _ | apply Drawn0.step)⟩
  · rw [if_neg c2] at H
    have c2b0 : (a0 == 0) = false := beq_eq_false_iff_ne.mpr c2
    have c2b1 : (a0 != 0) = true := bne_iff_ne.mpr c2
    by_cases c3 : a0 = 1
    · rw [if_pos c3] at H
      have c3b0 : (a0 == 1) = true := beq_iff_eq.mpr c3
      have c3b1 : (a0 != 1) = false := bne_eq_false_iff_eq.mpr c3
      clear c3
      obtain rfl := Option.some.inj H
      go_enter Tryz.func102, Tryz.ntmps102
      go_wp2
      go_ret
      exact ⟨by first | rfl | (simp; done) | (simp [*]; done), by repeat (first | exact Drawn0.refl _ | apply Drawn0.step)⟩
    · rw [if_neg c3] at H
      have c3b0 : (a0 == 1) = false := beq_eq_false_iff_ne.mpr c3
      have c3b1 : (a0 != 1) = true := bne_iff_ne.mpr c3
      by_cases c4 : a0 = 2
      · rw [if_pos c4] at H
        have c4b0 : (a0 == 2) = true := beq_iff_eq.mpr c4
        have c4b1 : (a0 != 2) = false := bne_eq_false_iff_eq.mpr c4
        clear c4
        obtain rfl := Option.some.inj H
        go_enter Tryz.func102, Tryz.ntmps102
        go_wp2
        go_ret
        exact ⟨by first | rfl | (simp; done) | (simp [*]; done), by repeat (first | exact Drawn0.refl _ | apply Drawn0.step)⟩
      · rw [if_neg c4] at H
        have c4b0 : (a0 == 2) = false := beq_eq_false_iff_ne.mpr c4
        have c4b1 : (a0 != 2) = true := bne_iff_ne.mpr c4
        by_cases c5 : a0 = 3
        · rw [if_pos c5] at H
          have c5b0 : (a0 == 3) = true := beq_iff_eq.mpr c5
          have c5b1 : (a0 != 3) = false := bne_eq_false_iff_eq.mpr c5
          clear c5
          obtain rfl := Option.some.inj H
          go_enter Tryz.func102, Tryz.ntmps102
          go_wp2
          go_ret
          exact ⟨by first | rfl | (simp; done) | (simp [*]; done), by repeat (first | exact Drawn0.refl _ | apply Drawn0.step)⟩
        · rw [if_neg c5] at H
          have c5b0 : (a0 == 3) = false := beq_eq_false_iff_ne.mpr c5
          have c5b1 : (a0 != 3) = true := bne_iff_ne.mpr c5
          by_cases c6 : a0 = 4
          · rw [if_pos c6] at H
            have c6b0 : (a0 == 4) = true := beq_iff_eq.mpr c6
            have c6b1 : (a0 != 4) = false := bne_eq_false_iff_eq.mpr c6
            clear c6
            obtain rfl := Option.some.inj H
            go_enter Tryz.func102, Tryz.ntmps102
            go_wp2
            go_ret
            exact ⟨by first | rfl | (simp; done) | (simp [*]; done), by repeat (first | exact Drawn0.refl _ | apply Drawn0.step)⟩
          · rw [if_neg c6] at H
            have c6b0 : (a0 == 4) = false := beq_eq_false_iff_ne.mpr c6
            have c6b1 : (a0 != 4) = true := bne_iff_ne.mpr c6
            by_cases c7 : a0 = 5
            · rw [if_pos c7] at H
              have c7b0 : (a0 == 5) = true := beq_iff_eq.mpr c7
              have c7b1 : (a0 != 5) = false := bne_eq_false_iff_eq.mpr c7
              clear c7
              obtain rfl := Option.some.inj H
              go_enter Tryz.func102, Tryz.ntmps102
              go_wp2
              go_ret
              exact ⟨by first | rfl | (simp; done) | (simp [*]; done), by repeat (first | exact Drawn0.refl _ | apply Drawn0.step)⟩
            · rw [if_neg c7] at H
              have c7b0 : (a0 == 5) = false := beq_eq_false_iff_ne.mpr c7
              have c7b1 : (a0 != 5) = true := bne_iff_ne.mpr c7
              by_cases c8 : a0 = 6
              · rw [if_pos c8] at H
                have c8b0 : (a0 == 6) = true := beq_iff_eq.mpr c8
                have c8b1 : (a0 != 6) = false := bne_eq_false_iff_eq.mpr c8
                clear c8
                obtain rfl := Option.some.inj H
                go_enter Tryz.func102, Tryz.ntmps102
                go_wp2
                go_ret
                exact ⟨by first | rfl | (simp; done) | (simp [*]; done), by repeat (first | exact Drawn0.refl _ | apply Drawn0.step)⟩
              · rw [if_neg c8] at H
                have c8b0 : (a0 == 6) = false := beq_eq_false_iff_ne.mpr c8
                have c8b1 : (a0 != 6) = true := bne_iff_ne.mpr c8
                obtain rfl := Option.some.inj H
                go_enter Tryz.func102, Tryz.ntmps102
                go_wp2
                go_ret
                exact ⟨by first | rfl | (simp; done) | (simp [*]; done), by repeat (first | exact Drawn0.refl _ | apply Drawn0.step)⟩

/-! ### cipher_mixed: function 84 -/
def cipher_mixed.l0 : Nat → Int → Int → List Int → Int → Int → Option (Int)
  | 0, _, _, _, _, _ => none
  | k + 1, x0, x1, x2, x7, x12 => if x12 < 8 then ((bits_RotateLeft32.f x0 (wrap64 ((wrap64 (4 * x12)) - 1))).bind fun t134 => (if 0 ≤ (wrap64 (42 - (wrap64 (6 * x12)))) then ((cipher_box.f x12).bind fun t135 => (if 0 ≤ (IntKind.u64.wrap ((IntKind.u64.wrap (16 * (Go.bits .or .u64 (Go.bits .and .u64 ((Go.bits .xor .u64 (IntKind.u64.wrap (t134 / 67108864)) (Go.bits .and .u64 (shr .u64 x1 (wrap64 (42 - (wrap64 (6 * x12))))) 63)) / 16) 2) (Go.bits .and .u64 (Go.bits .xor .u64 (IntKind.u64.wrap (t134 / 67108864)) (Go.bits .and .u64 (shr .u64 x1 (wrap64 (42 - (wrap64 (6 * x12))))) 63)) 1)))) + (Go.bits .and .u64 ((Go.bits .xor .u64 (IntKind.u64.wrap (t134 / 67108864)) (Go.bits .and .u64 (shr .u64 x1 (wrap64 (42 - (wrap64 (6 * x12))))) 63)) / 2) 15))) then (if (IntKind.u64.wrap ((IntKind.u64.wrap (16 * (Go.bits .or .u64 (Go.bits .and .u64 ((Go.bits .xor .u64 (IntKind.u64.wrap (t134 / 67108864)) (Go.bits .and .u64 (shr .u64 x1 (wrap64 (42 - (wrap64 (6 * x12))))) 63)) / 16) 2) (Go.bits .and .u64 (Go.bits .xor .u64 (IntKind.u64.wrap (t134 / 67108864)) (Go.bits .and .u64 (shr .u64 x1 (wrap64 (42 - (wrap64 (6 * x12))))) 63)) 1)))) + (Go.bits .and .u64 ((Go.bits .xor .u64 (IntKind.u64.wrap (t134 / 67108864)) (Go.bits .and .u64 (shr .u64 x1 (wrap64 (42 - (wrap64 (6 * x12))))) 63)) / 2) 15))) < (t135.size : Int) then ((cipher_sixteenth.f (bt t135 (IntKind.u64.wrap ((IntKind.u64.wrap (16 * (Go.bits .or .u64 (Go.bits .and .u64 ((Go.bits .xor .u64 (IntKind.u64.wrap (t134 / 67108864)) (Go.bits .and .u64 (shr .u64 x1 (wrap64 (42 - (wrap64 (6 * x12))))) 63)) / 16) 2) (Go.bits .and .u64 (Go.bits .xor .u64 (IntKind.u64.wrap (t134 / 67108864)) (Go.bits .and .u64 (shr .u64 x1 (wrap64 (42 - (wrap64 (6 * x12))))) 63)) 1)))) + (Go.bits .and .u64 ((Go.bits .xor .u64 (IntKind.u64.wrap (t134 / 67108864)) (Go.bits .and .u64 (shr .u64 x1 (wrap64 (42 - (wrap64 (6 * x12))))) 63)) / 2) 15))))).bind fun t136 => (cipher_mixed.l0 k x0 x1 x2 (Go.bits .or .u64 (IntKind.u64.wrap (x7 * 16)) t136) (wrap64 (x12 + 1)))) else (none)) else (none))) else (none))) else ((cipher_take.f k x2 x7 32).bind fun t137 => (some ((t137) % 4294967296)))
def cipher_mixed.f (k : Nat) (a0 : Int) (a1 : Int) (l2 : List Int) : Option (Int) := cipher_mixed.l0 k a0 a1 l2 0 0
set_option maxHeartbeats 8000000 in
set_option maxRecDepth 100000 in
theorem cipher_mixed.calls (k : Nat) (a0 : Int) (a1 : Int) (A2 : Option Addr) (c2 : Nat) (l2 : List Int) (r : Int) (w : World) (hr2 : Kd.C (Kd.int .u8) w A2 l2.length l2) (hc2 : l2.length ≤ c2) (h : cipher_mixed.f k a0 a1 l2 = some r) :
    Calls Tryz.prog 84 #[.int .u32 a0, .int .u64 a1, .slice A2 l2.length c2] w fun e w' => e = .returned (.int .u32 r) ∧ Drawn0 w w' := by
  have HR2 := Aside0.mk hr2
  have HC2 := Aside0.mk hc2
  clear hr2 hc2
  have H : (cipher_mixed.l0 k a0 a1 l2 0 0) = some r := h
  clear h
  have H' := Aside0.mk H
  clear H
  go_enter Tryz.func84, Tryz.ntmps84
  go_wp2
  repeat (go_quiet (fail); try go_wp2)
  go_loopg [7, 12] k (fun kq v7 v12 w' => ∃ (x7_1 : Int) (x12_1 : Int), v7 = .int .u64 x7_1 ∧ v12 = .int .i64 x12_1 ∧ Aside0 (cipher_mixed.l0 kq a0 a1 l2 x7_1 x12_1 = some r) ∧ Aside0 (kq ≤ k) ∧ Drawn0 w w')
  case atStart => exact ⟨(0), (0), (by first | rfl | (simp; done) | (simp [*]; done)), (by first | rfl | (simp; done) | (simp [*]; done)), H', ⟨Nat.le_refl _⟩, by repeat (first | exact Drawn0.refl _ | apply Drawn0.step)⟩
  case round =>
    clear H'
    try clear c2
    try clear p2
    obtain ⟨x7_1, x12_1, rfl, rfl, HA, HK1, ⟨m1, rfl⟩⟩ := hrel
    cases gk with
    | zero => exact absurd HA.out (by simp [cipher_mixed.l0])
    | succ k1 =>
      have H := HA.out
      clear HA
      simp only [cipher_mixed.l0] at H
      by_cases c4 : x12_1 < 8
      · rw [if_pos c4] at H
        have c4b0 : decide (x12_1 < 8) = true := decide_eq_true c4
        clear c4
        replace H := Option.bind_eq_some_iff.mp H
        obtain ⟨t134, A50, H⟩ := H
        replace H : (if 0 ≤ (wrap64 (42 - (wrap64 (6 * x12_1)))) then ((cipher_box.f x12_1).bind fun t135 => (if 0 ≤ (IntKind.u64.wrap ((IntKind.u64.wrap (16 * (Go.bits .or .u64 (Go.bits .and .u64 ((Go.bits .xor .u64 (IntKind.u64.wrap (t134 / 67108864)) (Go.bits .and .u64 (shr .u64 a1 (wrap64 (42 - (wrap64 (6 * x12_1))))) 63)) / 16) 2) (Go.bits .and .u64 (Go.bits .xor .u64 (IntKind.u64.wrap (t134 / 67108864)) (Go.bits .and .u64 (shr .u64 a1 (wrap64 (42 - (wrap64 (6 * x12_1))))) 63)) 1)))) + (Go.bits .and .u64 ((Go.bits .xor .u64 (IntKind.u64.wrap (t134 / 67108864)) (Go.bits .and .u64 (shr .u64 a1 (wrap64 (42 - (wrap64 (6 * x12_1))))) 63)) / 2) 15))) then (if (IntKind.u64.wrap ((IntKind.u64.wrap (16 * (Go.bits .or .u64 (Go.bits .and .u64 ((Go.bits .xor .u64 (IntKind.u64.wrap (t134 / 67108864)) (Go.bits .and .u64 (shr .u64 a1 (wrap64 (42 - (wrap64 (6 * x12_1))))) 63)) / 16) 2) (Go.bits .and .u64 (Go.bits .xor .u64 (IntKind.u64.wrap (t134 / 67108864)) (Go.bits .and .u64 (shr .u64 a1 (wrap64 (42 - (wrap64 (6 * x12_1))))) 63)) 1)))) + (Go.bits .and .u64 ((Go.bits .xor .u64 (IntKind.u64.wrap (t134 / 67108864)) (Go.bits .and .u64 (shr .u64 a1 (wrap64 (42 - (wrap64 (6 * x12_1))))) 63)) / 2) 15))) < (t135.size : Int) then ((cipher_sixteenth.f (bt t135 (IntKind.u64.wrap ((IntKind.u64.wrap (16 * (Go.bits .or .u64 (Go.bits .and .u64 ((Go.bits .xor .u64 (IntKind.u64.wrap (t134 / 67108864)) (Go.bits .and .u64 (shr .u64 a1 (wrap64 (42 - (wrap64 (6 * x12_1))))) 63)) / 16) 2) (Go.bits .and .u64 (Go.bits .xor .u64 (IntKind.u64.wrap (t134 / 67108864)) (Go.bits .and .u64 (shr .u64 a1 (wrap64 (42 - (wrap64 (6 * x12_1))))) 63)) 1)))) + (Go.bits .and .u64 ((Go.bits .xor .u64 (IntKind.u64.wrap (t134 / 67108864)) (Go.bits .and .u64 (shr .u64 a1 (wrap64 (42 - (wrap64 (6 * x12_1))))) 63)) / 2) 15))))).bind fun t136 => (cipher_mixed.l0 k1 a0 a1 l2 (Go.bits .or .u64 (IntKind.u64.wrap (x7_1 * 16)) t136) (wrap64 (x12_1 + 1)))) else (none)) else (none))) else (none)) = some r := H
        have A5 := Aside0.mk A50
        clear A50
        obtain ⟨ji6, hji6⟩ : ∃ j_ : Int, (wrap64 (42 - (wrap64 (6 * x12_1)))) = j_ := ⟨_, rfl⟩
        replace H : (if 0 ≤ (ji6) then ((cipher_box.f x12_1).bind fun t135 => (if 0 ≤ (IntKind.u64.wrap ((IntKind.u64.wrap (16 * (Go.bits .or .u64 (Go.bits .and .u64 ((Go.bits .xor .u64 (IntKind.u64.wrap (t134 / 67108864)) (Go.bits .and .u64 (shr .u64 a1 (ji6)) 63)) / 16) 2) (Go.bits .and .u64 (Go.bits .xor .u64 (IntKind.u64.wrap (t134 / 67108864)) (Go.bits .and .u64 (shr .u64 a1 (ji6)) 63)) 1)))) + (Go.bits .and .u64 ((Go.bits .xor .u64 (IntKind.u64.wrap (t134 / 67108864)) (Go.bits .and .u64 (shr .u64 a1 (ji6)) 63)) / 2) 15))) then (if (IntKind.u64.wrap ((IntKind.u64.wrap (16 * (Go.bits .or .u64 (Go.bits .and .u64 ((Go.bits .xor .u64 (IntKind.u64.wrap (t134 / 67108864)) (Go.bits .and .u64 (shr .u64 a1 (ji6)) 63)) / 16) 2) (Go.bits .and .u64 (Go.bits .xor .u64 (IntKind.u64.wrap (t134 / 67108864)) (Go.bits .and .u64 (shr .u64 a1 (ji6)) 63)) 1)))) + (Go.bits .and .u64 ((Go.bits .xor .u64 (IntKind.u64.wrap (t134 / 67108864)) (Go.bits .and .u64 (shr .u64 a1 (ji6)) 63)) / 2) 15))) < (t135.size : Int) then ((cipher_sixteenth.f (bt t135 (IntKind.u64.wrap ((IntKind.u64.wrap (16 * (Go.bits .or .u64 (Go.bits .and .u64 ((Go.bits .xor .u64 (IntKind.u64.wrap (t134 / 67108864)) (Go.bits .and .u64 (shr .u64 a1 (ji6)) 63)) / 16) 2) (Go.bits .and .u64 (Go.bits .xor .u64 (IntKind.u64.wrap (t134 / 67108864)) (Go.bits .and .u64 (shr .u64 a1 (ji6)) 63)) 1)))) + (Go.bits .and .u64 ((Go.bits .xor .u64 (IntKind.u64.wrap (t134 / 67108864)) (Go.bits .and .u64 (shr .u64 a1 (ji6)) 63)) / 2) 15))))).bind fun t136 => (cipher_mixed.l0 k1 a0 a1 l2 (Go.bits .or .u64 (IntKind.u64.wrap (x7_1 * 16)) t136) (wrap64 (x12_1 + 1)))) else (none)) else (none))) else (none)) = some r := by first | (rw [hji6] at H; exact H) | (simp only [hji6] at H ⊢; exact H)
        (try rw [hji6] at A5)
        have hji6w : (IntKind.i64.wrap (42 - (wrap64 (6 * x12_1)))) = ji6 := (i64_w _).trans hji6
        by_cases c7 : 0 ≤ (ji6)
        · rw [if_pos c7] at H
          have c7b0 := eq_true c7
          have c7b1 : decide (0 ≤ (ji6)) = true := decide_eq_true c7
          clear c7
          obtain ⟨ji8, hji8⟩ : ∃ j_ : Int, (shr .u64 a1 (ji6)) = j_ := ⟨_, rfl⟩
          replace H : ((cipher_box.f x12_1).bind fun t135 => (if 0 ≤ (IntKind.u64.wrap ((IntKind.u64.wrap (16 * (Go.bits .or .u64 (Go.bits .and .u64 ((Go.bits .xor .u64 (IntKind.u64.wrap (t134 / 67108864)) (Go.bits .and .u64 (ji8) 63)) / 16) 2) (Go.bits .and .u64 (Go.bits .xor .u64 (IntKind.u64.wrap (t134 / 67108864)) (Go.bits .and .u64 (ji8) 63)) 1)))) + (Go.bits .and .u64 ((Go.bits .xor .u64 (IntKind.u64.wrap (t134 / 67108864)) (Go.bits .and .u64 (ji8) 63)) / 2) 15))) then (if (IntKind.u64.wrap ((IntKind.u64.wrap (16 * (Go.bits .or .u64 (Go.bits .and .u64 ((Go.bits .xor .u64 (IntKind.u64.wrap (t134 / 67108864)) (Go.bits .and .u64 (ji8) 63)) / 16) 2) (Go.bits .and .u64 (Go.bits .xor .u64 (IntKind.u64.wrap (t134 / 67108864)) (Go.bits .and .u64 (ji8) 63)) 1)))) + (Go.bits .and .u64 ((Go.bits .xor .u64 (IntKind.u64.wrap (t134 / 67108864)) (Go.bits .and .u64 (ji8) 63)) / 2) 15))) < (t135.size : Int) then ((cipher_sixteenth.f (bt t135 (IntKind.u64.wrap ((IntKind.u64.wrap (16 * (Go.bits .or .u64 (Go.bits .and .u64 ((Go.bits .xor .u64 (IntKind.u64.wrap (t134 / 67108864)) (Go.bits .and .u64 (ji8) 63)) / 16) 2) (Go.bits .and .u64 (Go.bits .xor .u64 (IntKind.u64.wrap (t134 / 67108864)) (Go.bits .and .u64 (ji8) 63)) 1)))) + (Go.bits .and .u64 ((Go.bits .xor .u64 (IntKind.u64.wrap (t134 / 67108864)) (Go.bits .and .u64 (ji8) 63)) / 2) 15))))).bind fun t136 => (cipher_mixed.l0 k1 a0 a1 l2 (Go.bits .or .u64 (IntKind.u64.wrap (x7_1 * 16)) t136) (wrap64 (x12_1 + 1)))) else (none)) else (none))) = some r := by first | (rw [hji8] at H; exact H) | (simp only [hji8] at H ⊢; exact H)
          (try rw [hji8] at A5)
          have hji8_ : (a1 / 2 ^ min (ji6).toNat 64) = ji8 := hji8
          have hji8z : (ji6) ≤ 64 → (a1 / 2 ^ (ji6).toNat) = ji8 := shr_small hji8
          replace H := Option.bind_eq_some_iff.mp H
          obtain ⟨t135, A90, H⟩ := H
          replace H : (if 0 ≤ (IntKind.u64.wrap ((IntKind.u64.wrap (16 * (Go.bits .or .u64 (Go.bits .and .u64 ((Go.bits .xor .u64 (IntKind.u64.wrap (t134 / 67108864)) (Go.bits .and .u64 (ji8) 63)) / 16) 2) (Go.bits .and .u64 (Go.bits .xor .u64 (IntKind.u64.wrap (t134 / 67108864)) (Go.bits .and .u64 (ji8) 63)) 1)))) + (Go.bits .and .u64 ((Go.bits .xor .u64 (IntKind.u64.wrap (t134 / 67108864)) (Go.bits .and .u64 (ji8) 63)) / 2) 15))) then (if (IntKind.u64.wrap ((IntKind.u64.wrap (16 * (Go.bits .or .u64 (Go.bits .and .u64 ((Go.bits .xor .u64 (IntKind.u64.wrap (t134 / 67108864)) (Go.bits .and .u64 (ji8) 63)) / 16) 2) (Go.bits .and .u64 (Go.bits .xor .u64 (IntKind.u64.wrap (t134 / 67108864)) (Go.bits .and .u64 (ji8) 63)) 1)))) + (Go.bits .and .u64 ((Go.bits .xor .u64 (IntKind.u64.wrap (t134 / 67108864)) (Go.bits .and .u64 (ji8) 63)) / 2) 15))) < (t135.size : Int) then ((cipher_sixteenth.f (bt t135 (IntKind.u64.wrap ((IntKind.u64.wrap (16 * (Go.bits .or .u64 (Go.bits .and .u64 ((Go.bits .xor .u64 (IntKind.u64.wrap (t134 / 67108864)) (Go.bits .and .u64 (ji8) 63)) / 16) 2) (Go.bits .and .u64 (Go.bits .xor .u64 (IntKind.u64.wrap (t134 / 67108864)) (Go.bits .and .u64 (ji8) 63)) 1)))) + (Go.bits .and .u64 ((Go.bits .xor .u64 (IntKind.u64.wrap (t134 / 67108864)) (Go.bits .and .u64 (ji8) 63)) / 2) 15))))).bind fun t136 => (cipher_mixed.l0 k1 a0 a1 l2 (Go.bits .or .u64 (IntKind.u64.wrap (x7_1 * 16)) t136) (wrap64 (x12_1 + 1)))) else (none)) else (none)) = some r := H
          have A9 := Aside0.mk A90
          clear A90
          obtain ⟨ji10, hji10⟩ : ∃ j_ : Int, (IntKind.u64.wrap ((IntKind.u64.wrap (16 * (Go.bits .or .u64 (Go.bits .and .u64 ((Go.bits .xor .u64 (IntKind.u64.wrap (t134 / 67108864)) (Go.bits .and .u64 (ji8) 63)) / 16) 2) (Go.bits .and .u64 (Go.bits .xor .u64 (IntKind.u64.wrap (t134 / 67108864)) (Go.bits .and .u64 (ji8) 63)) 1)))) + (Go.bits .and .u64 ((Go.bits .xor .u64 (IntKind.u64.wrap (t134 / 67108864)) (Go.bits .and .u64 (ji8) 63)) / 2) 15))) = j_ := ⟨_, rfl⟩
          replace H : (if 0 ≤ (ji10) then (if (ji10) < (t135.size : Int) then ((cipher_sixteenth.f (bt t135 (ji10))).bind fun t136 => (cipher_mixed.l0 k1 a0 a1 l2 (Go.bits .or .u64 (IntKind.u64.wrap (x7_1 * 16)) t136) (wrap64 (x12_1 + 1)))) else (none)) else (none)) = some r := by first | (rw [hji10] at H; exact H) | (simp only [hji10] at H ⊢; exact H)
          (try rw [hji10] at A5)
          (try rw [hji10] at A9)
          by_cases c11 : 0 ≤ (ji10)
          · rw [if_pos c11] at H
            have c11b0 : decide (0 ≤ (ji10)) = true := decide_eq_true c11
            clear c11
            by_cases c12 : (ji10) < (t135.size : Int)
            · rw [if_pos c12] at H
              have c12b0 : decide ((ji10) < (t135.size : Int)) = true := decide_eq_true c12
              clear c12
              replace H := Option.bind_eq_some_iff.mp H
              obtain ⟨t136, A140, H⟩ := H
              replace H : (cipher_mixed.l0 k1 a0 a1 l2 (Go.bits .or .u64 (IntKind.u64.wrap (x7_1 * 16)) t136) (wrap64 (x12_1 + 1))) = some r := H
              have A14 := Aside0.mk A140
              clear A140
              have H' := Aside0.mk H
              clear H
              go_wp2_with (first | (go_at_call 100; (with_reducible refine (bits_RotateLeft32.calls a0 (wrap64 ((wrap64 (4 * x12_1)) - 1)) t134 _ A5.out).mono ?_); rintro e w' ⟨rfl, ⟨nd, rfl⟩⟩; (try first | exact ⟨rfl, _, World.drewN_drewN _ _ _⟩ | exact ⟨rfl, _, Eq.trans (World.drewN_drewN _ _ _) (congrArg (World.drewN _) (Nat.add_assoc _ _ _))⟩)) | (go_at_call 102; (with_reducible refine (cipher_box.calls x12_1 t135 _ A9.out).mono ?_); rintro e w' ⟨rfl, ⟨nd, rfl⟩⟩; (try first | exact ⟨rfl, _, World.drewN_drewN _ _ _⟩ | exact ⟨rfl, _, Eq.trans (World.drewN_drewN _ _ _) (congrArg (World.drewN _) (Nat.add_assoc _ _ _))⟩); have p13 : 0 ≤ ((ji10) : Int) := of_decide_eq_true (by first | (with_reducible assumption) | assumption); have q13 : (ji10) < (t135.size : Int) := of_decide_eq_true (by first | (with_reducible assumption) | assumption); have hx13 := bt_at t135 (ji10); replace p13 := eq_true p13; replace q13 := eq_true q13) | (go_at_call 101; (with_reducible refine (cipher_sixteenth.calls (bt t135 (ji10)) t136 _ A14.out).mono ?_); rintro e w' ⟨rfl, ⟨nd, rfl⟩⟩; (try first | exact ⟨rfl, _, World.drewN_drewN _ _ _⟩ | exact ⟨rfl, _, Eq.trans (World.drewN_drewN _ _ _) (congrArg (World.drewN _) (Nat.add_assoc _ _ _))⟩)))
              repeat (go_quiet (first | (go_at_call 100; (with_reducible refine (bits_RotateLeft32.calls a0 (wrap64 ((wrap64 (4 * x12_1)) - 1)) t134 _ A5.out).mono ?_); rintro e w' ⟨rfl, ⟨nd, rfl⟩⟩; (try first | exact ⟨rfl, _, World.drewN_drewN _ _ _⟩ | exact ⟨rfl, _, Eq.trans (World.drewN_drewN _ _ _) (congrArg (World.drewN _) (Nat.add_assoc _ _ _))⟩)) | (go_at_call 102; (with_reducible refine (cipher_box.calls x12_1 t135 _ A9.out).mono ?_); rintro e w' ⟨rfl, ⟨nd, rfl⟩⟩; (try first | exact ⟨rfl, _, World.drewN_drewN _ _ _⟩ | exact ⟨rfl, _, Eq.trans (World.drewN_drewN _ _ _) (congrArg (World.drewN _) (Nat.add_assoc _ _ _))⟩); have p13 : 0 ≤ ((ji10) : Int) := of_decide_eq_true (by first | (with_reducible assumption) | assumption); have q13 : (ji10) < (t135.size : Int) := of_decide_eq_true (by first | (with_reducible assumption) | assumption); have hx13 := bt_at t135 (ji10); replace p13 := eq_true p13; replace q13 := eq_true q13) | (go_at_call 101; (with_reducible refine (cipher_sixteenth.calls (bt t135 (ji10)) t136 _ A14.out).mono ?_); rintro e w' ⟨rfl, ⟨nd, rfl⟩⟩; (try first | exact ⟨rfl, _, World.drewN_drewN _ _ _⟩ | exact ⟨rfl, _, Eq.trans (World.drewN_drewN _ _ _) (congrArg (World.drewN _) (Nat.add_assoc _ _ _))⟩))); try go_wp2_with (first | (go_at_call 100; (with_reducible refine (bits_RotateLeft32.calls a0 (wrap64 ((wrap64 (4 * x12_1)) - 1)) t134 _ A5.out).mono ?_); rintro e w' ⟨rfl, ⟨nd, rfl⟩⟩; (try first | exact ⟨rfl, _, World.drewN_drewN _ _ _⟩ | exact ⟨rfl, _, Eq.trans (World.drewN_drewN _ _ _) (congrArg (World.drewN _) (Nat.add_assoc _ _ _))⟩)) | (go_at_call 102; (with_reducible refine (cipher_box.calls x12_1 t135 _ A9.out).mono ?_); rintro e w' ⟨rfl, ⟨nd, rfl⟩⟩; (try first | exact ⟨rfl, _, World.drewN_drewN _ _ _⟩ | exact ⟨rfl, _, Eq.trans (World.drewN_drewN _ _ _) (congrArg (World.drewN _) (Nat.add_assoc _ _ _))⟩); have p13 : 0 ≤ ((ji10) : Int) := of_decide_eq_true (by first | (with_reducible assumption) | assumption); have q13 : (ji10) < (t135.size : Int) := of_decide_eq_true (by first | (with_reducible assumption) | assumption); have hx13 := bt_at t135 (ji10); replace p13 := eq_true p13; replace q13 := eq_true q13) | (go_at_call 101; (with_reducible refine (cipher_sixteenth.calls (bt t135 (ji10)) t136 _ A14.out).mono ?_); rintro e w' ⟨rfl, ⟨nd, rfl⟩⟩; (try first | exact ⟨rfl, _, World.drewN_drewN _ _ _⟩ | exact ⟨rfl, _, Eq.trans (World.drewN_drewN _ _ _) (congrArg (World.drewN _) (Nat.add_assoc _ _ _))⟩))))
              go_roundg k1
              case measure => have := HK1.out; omega
              case rel => exact ⟨(Go.bits .or .u64 (IntKind.u64.wrap (x7_1 * 16)) t136), (wrap64 (x12_1 + 1)), (by first | rfl | (simp; done) | (simp [*]; done)), (by first | rfl | (simp; done) | (simp [*]; done)), H', ⟨by have := HK1.out; omega⟩, by repeat (first | exact Drawn0.refl _ | apply Drawn0.step)⟩
            · rw [if_neg c12] at H
              exact absurd H (by simp)
          · rw [if_neg c11] at H
            exact absurd H (by simp)
        · rw [if_neg c7] at H
          exact absurd H (by simp)
      · rw [if_neg c4] at H
        have c4b0 : decide (x12_1 < 8) = false := decide_eq_false c4
        clear c4
        replace H := Option.bind_eq_some_iff.mp H
        obtain ⟨t137, A150, H⟩ := H
        replace H : (some ((t137) % 4294967296)) = some r := H
        have A15 := Aside0.mk A150
        clear A150
        obtain rfl := Option.some.inj H
        go_wp2_with (first | (go_at_call 78; (with_reducible refine (cipher_take.calls k1 _ _ l2 x7_1 32 t137 _ ?side1 ?side2 A15.out).mono ?_); (case side1 => repeat (first | exact HR2.out | (with_reducible refine Kd.C_alloc ?_ _) | (with_reducible refine Kd.C_drewN ?_ _) | (with_reducible refine Kd.C_drew ?_))); (case side2 => exact HC2.out); rintro e w' ⟨rfl, ⟨nd, rfl⟩⟩; (try first | exact ⟨rfl, _, World.drewN_drewN _ _ _⟩ | exact ⟨rfl, _, Eq.trans (World.drewN_drewN _ _ _) (congrArg (World.drewN _) (Nat.add_assoc _ _ _))⟩)))
        repeat (go_quiet (first | (go_at_call 78; (with_reducible refine (cipher_take.calls k1 _ _ l2 x7_1 32 t137 _ ?side1 ?side2 A15.out).mono ?_); (case side1 => repeat (first | exact HR2.out | (with_reducible refine Kd.C_alloc ?_ _) | (with_reducible refine Kd.C_drewN ?_ _) | (with_reducible refine Kd.C_drew ?_))); (case side2 => exact HC2.out); rintro e w' ⟨rfl, ⟨nd, rfl⟩⟩; (try first | exact ⟨rfl, _, World.drewN_drewN _ _ _⟩ | exact ⟨rfl, _, Eq.trans (World.drewN_drewN _ _ _) (congrArg (World.drewN _) (Nat.add_assoc _ _ _))⟩))); try go_wp2_with (first | (go_at_call 78; (with_reducible refine (cipher_take.calls k1 _ _ l2 x7_1 32 t137 _ ?side1 ?side2 A15.out).mono ?_); (case side1 => repeat (first | exact HR2.out | (with_reducible refine Kd.C_alloc ?_ _) | (with_reducible refine Kd.C_drewN ?_ _) | (with_reducible refine Kd.C_drew ?_))); (case side2 => exact HC2.out); rintro e w' ⟨rfl, ⟨nd, rfl⟩⟩; (try first | exact ⟨rfl, _, World.drewN_drewN _ _ _⟩ | exact ⟨rfl, _, Eq.trans (World.drewN_drewN _ _ _) (congrArg (World.drewN _) (Nat.add_assoc _ _ _))⟩))))
        go_ret
        exact ⟨by first | rfl | (simp; done) | (simp [*]; done), by repeat (first | exact Drawn0.refl _ | apply Drawn0.step)⟩

/-! ### cipher_half: function 80 -/
def cipher_half.f (a0 : Int) (a1 : Int) : Option (Int) := if 0 ≤ a1 then (if 0 ≤ (wrap64 (28 - a1)) then (some (Go.bits .and .u64 (Go.bits .or .u64 (shl .u64 a0 a1) (shr .u64 a0 (wrap64 (28 - a1)))) 268435455)) else (none)) else (none)
set_option maxHeartbeats 8000000 in
set_option maxRecDepth 100000 in
theorem cipher_half.calls (a0 : Int) (a1 : Int) (r : Int) (w : World) (h : cipher_half.f a0 a1 = some r) :
    Calls Tryz.prog 80 #[.int .u64 a0, .int .i64 a1] w fun e w' => e = .returned (.int .u64 r) ∧ Drawn0 w w' := by
  have H : (if 0 ≤ a1 then (if 0 ≤ (wrap64 (28 - a1)) then (some (Go.bits .and .u64 (Go.bits .or .u64 (shl .u64 a0 a1) (shr .u64 a0 (wrap64 (28 - a1)))) 268435455)) else (none)) else (none)) = some r := h
  clear h
  by_cases c3 : 0 ≤ a1
  · rw [if_pos c3] at H
    have c3b0 := eq_true c3
    have c3b1 : decide (0 ≤ a1) = true := decide_eq_true c3
    clear c3
    obtain ⟨ji4, hji4⟩ : ∃ j_ : Int, (shl .u64 a0 a1) = j_ := ⟨_, rfl⟩
    replace H : (if 0 ≤ (wrap64 (28 - a1)) then (some (Go.bits .and .u64 (Go.bits .or .u64 (ji4) (shr .u64 a0 (wrap64 (28 - a1)))) 268435455)) else (none)) = some r := by first | (rw [hji4] at H; exact H) | (simp only [hji4] at H ⊢; exact H)
    have hji4_ : (IntKind.u64.wrap (a0 * 2 ^ min a1.toNat 64)) = ji4 := hji4
    have hji4z : a1 ≤ 64 → (IntKind.u64.wrap (a0 * 2 ^ a1.toNat)) = ji4 := shl_small hji4
    obtain ⟨ji5, hji5⟩ : ∃ j_ : Int, (wrap64 (28 - a1)) = j_ := ⟨_, rfl⟩
    replace H : (if 0 ≤ (ji5) then (some (Go.bits .and .u64 (Go.bits .or .u64 (ji4) (shr .u64 a0 (ji5))) 268435455)) else (none)) = some r := by first | (rw [hji5] at H; exact H) | (simp only [hji5] at H ⊢; exact H)
    have hji5w : (IntKind.i64.wrap (28 - a1)) = ji5 := (i64_w _).trans hji5
    by_cases c6 : 0 ≤ (ji5)
    · rw [if_pos c6] at H
      have c6b0 := eq_true c6
      have c6b1 : decide (0 ≤ (ji5)) = true := decide_eq_true c6
      clear c6
      obtain ⟨ji7, hji7⟩ : ∃ j_ : Int, (shr .u64 a0 (ji5)) = j_ := ⟨_, rfl⟩
      replace H : (some (Go.bits .and .u64 (Go.bits .or .u64 (ji4) (ji7)) 268435455)) = some r := by first | (rw [hji7] at H; exact H) | (simp only [hji7] at H ⊢; exact H)
      have hji7_ : (a0 / 2 ^ min (ji5).toNat 64) = ji7 := hji7
      have hji7z : (ji5) ≤ 64 → (a0 / 2 ^ (ji5).toNat) = ji7 := shr_small hji7
      obtain rfl := Option.some.inj H
      go_enter Tryz.func80, Tryz.ntmps80
      go_wp2
      repeat (go_quiet (fail); try go_wp2)
      go_ret
      exact ⟨by first | rfl | (simp; done) | (simp only [← hji4, ← hji5, ← hji7] <;> (first | rfl | simp)) | (simp [*]; done), by repeat (first | exact Drawn0.refl _ | apply Drawn0.step)⟩
    · rw [if_neg c6] at H
      exact absurd H (by simp)
  · rw [if_neg c3] at H
    exact absurd H (by simp)

/-! ### cipher_kind: function 60 -/
def cipher_kind.f (a0 : ByteArray) : Option (Int) := if (a0.size : Int) = 8 then (some 1) else (if (a0.size : Int) = 16 then (some 2) else (if (a0.size : Int) = 24 then (some 3) else (some 0)))
set_option maxHeartbeats 8000000 in
set_option maxRecDepth 100000 in
theorem cipher_kind.calls (a0 : ByteArray) (r : Int) (w : World) (h : cipher_kind.f a0 = some r) :
    Calls Tryz.prog 60 #[.string a0] w fun e w' => e = .returned (.int .i64 r) ∧ Drawn0 w w' := by
  have H : (if (a0.size : Int) = 8 then (some 1) else (if (a0.size : Int) = 16 then (some 2) else (if (a0.size : Int) = 24 then (some 3) else (some 0)))) = some r := h
  clear h
  by_cases c2 : (a0.size : Int) = 8
  · rw [if_pos c2] at H
    have c2b0 : ((a0.size : Int) == 8) = true := beq_iff_eq.mpr c2
    have c2b1 : ((a0.size : Int) != 8) = false := bne_eq_false_iff_eq.mpr c2
    clear c2
    obtain rfl := Option.some.inj H
    go_enter Tryz.func60, Tryz.ntmps60
    go_wp2
    go_ret
    exact ⟨by first | rfl | (simp; done) | (simp [*]; done), by repeat (first | exact Drawn0.refl _ | apply Drawn0.step)⟩
  · rw [if_neg c2] at H
    have c2b0 : ((a0.size : Int) == 8) = false := beq_eq_false_iff_ne.mpr c2
    have c2b1 : ((a0.size : Int) != 8) = true := bne_iff_ne.mpr c2
    by_cases c3 : (a0.size : Int) = 16
    · rw [if_pos c3] at H
      have c3b0 : ((a0.size : Int) == 16) = true := beq_iff_eq.mpr c3
      have c3b1 : ((a0.size : Int) != 16) = false := bne_eq_false_iff_eq.mpr c3
      clear c3
      obtain rfl := Option.some.inj H
      go_enter Tryz.func60, Tryz.ntmps60
      go_wp2
      go_ret
      exact ⟨by first | rfl | (simp; done) | (simp [*]; done), by repeat (first | exact Drawn0.refl _ | apply Drawn0.step)⟩
    · rw [if_neg c3] at H
      have c3b0 : ((a0.size : Int) == 16) = false := beq_eq_false_iff_ne.mpr c3
      have c3b1 : ((a0.size : Int) != 16) = true := bne_iff_ne.mpr c3
      by_cases c4 : (a0.size : Int) = 24
      · rw [if_pos c4] at H
        have c4b0 : ((a0.size : Int) == 24) = true := beq_iff_eq.mpr c4
        have c4b1 : ((a0.size : Int) != 24) = false := bne_eq_false_iff_eq.mpr c4
        clear c4
        obtain rfl := Option.some.inj H
        go_enter Tryz.func60, Tryz.ntmps60
        go_wp2
        go_ret
        exact ⟨by first | rfl | (simp; done) | (simp [*]; done), by repeat (first | exact Drawn0.refl _ | apply Drawn0.step)⟩
      · rw [if_neg c4] at H
        have c4b0 : ((a0.size : Int) == 24) = false := beq_eq_false_iff_ne.mpr c4
        have c4b1 : ((a0.size : Int) != 24) = true := bne_iff_ne.mpr c4
        obtain rfl := Option.some.inj H
        go_enter Tryz.func60, Tryz.ntmps60
        go_wp2
        go_ret
        exact ⟨by first | rfl | (simp; done) | (simp [*]; done), by repeat (first | exact Drawn0.refl _ | apply Drawn0.step)⟩

end Go.Proofs.YtkjjdodnkcmeiaaGreatDoor.PX
