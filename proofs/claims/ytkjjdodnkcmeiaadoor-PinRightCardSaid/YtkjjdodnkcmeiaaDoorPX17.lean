-- Written by px.py of this session, which runs the kit's print with given contracts. Not trusted: Lean checks it.
import Derived.Test.YtkjjdodnkcmeiaaDoorPX0
import Derived.Test.YtkjjdodnkcmeiaaDoorPX13
import Derived.Test.YtkjjdodnkcmeiaaDoorPX14
import Derived.Test.YtkjjdodnkcmeiaaDoorPX15
import Derived.Test.YtkjjdodnkcmeiaaDoorPX16
import Derived.Test.YtkjjdodnkcmeiaaDoorPX5
import Derived.Test.YtkjjdodnkcmeiaaDoorPX6
import Derived.Test.YtkjjdodnkcmeiaaDoorBlock
namespace Go.Proofs.YtkjjdodnkcmeiaaDoor.PX
open Go.RowKit Go.Proofs.YtkjjdodnkcmeiaaDoorW.PrintWords Go.Proofs.YtkjjdodnkcmeiaaDoorW.PrintLast Go.Proofs.YtkjjdodnkcmeiaaDoorW.PrintMore
attribute [local go_sem] max2_int min2_int max_two min_two max_three min_three max_four min_four   -- for this text's walks alone
set_option linter.unusedVariables false
set_option linter.unusedSimpArgs false

/-! ### turnstilelaw6_PinRight: function 4 -/
def turnstilelaw6_PinRight.j0 : Nat → Bool → Int → ByteArray → ByteArray → ByteArray → Bool → Option (Bool)
  | 0, _, _, _, _, _, _ => none
  | k + 1, x9, x10, x11, x12, x13, x85 => if x85 = true then (some false) else ((turnstilelaw6_filling.f k x10 (⟨#[]⟩ : ByteArray) (x13.size : Int)).bind fun t242 => ((pin_Block.f x10 x13 x12 t242).bind fun bt243 => ((pin_Open.f k x10 bt243.1 x12).bind fun bt245 => (if x9 = true then (if bt243.2 = 0 then (if bt245.2 = 0 then (if bt245.1.toList = x13.toList then (if x10 = 0 then (some (bt243.1.toList == x11.toList)) else (some true)) else (some false)) else (some false)) else (some false)) else (some false)))))
def turnstilelaw6_PinRight.f (k : Nat) (a0 : Int) (a1 : ByteArray) (a2 : ByteArray) (a3 : Int) : Option (Bool) := (turnstilelaw6_known.f k).bind fun t234 => ((turnstilelaw6_which.f a0).bind fun t235 => ((turnstilelaw6_fit.f k a1 8).bind fun t236 => ((turnstilelaw6_pick.f a3 7).bind fun t237 => ((turnstilelaw6_digits.f k a2 (wrap64 (13 + t237))).bind fun t238 => ((pin_Open.f k t235 t236 t238).bind fun bt239 => (if bt239.2 = 0 then ((turnstilelaw6_number.f k bt239.1).bind fun t241 => (if (bt239.1.size : Int) < 4 then (turnstilelaw6_PinRight.j0 k t234 t235 t236 t238 bt239.1 true) else (if (bt239.1.size : Int) > 12 then (turnstilelaw6_PinRight.j0 k t234 t235 t236 t238 bt239.1 true) else (if 0 < (t236.size : Int) then (if (bt239.1.size : Int) = (Int.tmod (wrap64 (bt t236 0)) 16) then (turnstilelaw6_PinRight.j0 k t234 t235 t236 t238 bt239.1 (!t241)) else (turnstilelaw6_PinRight.j0 k t234 t235 t236 t238 bt239.1 true)) else (none))))) else (if t234 = true then (if bt239.1.toList = ([] : List UInt8) then (if bt239.2 = 61 then (if 0 < (t236.size : Int) then (some ((bt239.2 == 61) == ((wrap64 (Int.tdiv (wrap64 (bt t236 0)) 16)) != t235))) else (none)) else (if bt239.2 = 60 then (if 0 < (t236.size : Int) then (some ((bt239.2 == 61) == ((wrap64 (Int.tdiv (wrap64 (bt t236 0)) 16)) != t235))) else (none)) else (some false))) else (some false)) else (some false))))))))
theorem turnstilelaw6_PinRight.mono_l : ∀ k, (∀ y0 y1 y2 y3 y4 y5, LeO (turnstilelaw6_PinRight.j0 k y0 y1 y2 y3 y4 y5) (turnstilelaw6_PinRight.j0 (k + 1) y0 y1 y2 y3 y4 y5))
  | 0 => fun _ _ _ _ _ _ r h => by simp [turnstilelaw6_PinRight.j0] at h
  | k + 1 => by
    have ih0 := turnstilelaw6_PinRight.mono_l k
    · intro y0 y1 y2 y3 y4 y5
      unfold turnstilelaw6_PinRight.j0
      repeat' first
      | (with_reducible exact ih0 _ _ _ _ _ _)
      | (with_reducible exact pin_Open.mono _ _ _ _)
      | (with_reducible exact turnstilelaw6_digits.mono _ _ _)
      | (with_reducible exact turnstilelaw6_filling.mono _ _ _ _)
      | (with_reducible exact turnstilelaw6_fit.mono _ _ _)
      | (with_reducible exact turnstilelaw6_known.mono _)
      | (with_reducible exact turnstilelaw6_number.mono _ _)
      | (with_reducible exact LeO.refl _)
      | (with_reducible exact LeO.none _)
      | (with_reducible refine LeO.ite ?_ ?_)
      | (with_reducible refine LeO.bind ?_ (fun _ => ?_))
      | exact ih0 _ _ _ _ _ _
      | exact pin_Open.mono _ _ _ _
      | exact turnstilelaw6_digits.mono _ _ _
      | exact turnstilelaw6_filling.mono _ _ _ _
      | exact turnstilelaw6_fit.mono _ _ _
      | exact turnstilelaw6_known.mono _
      | exact turnstilelaw6_number.mono _ _
      | exact LeO.none _
      | refine LeO.ite ?_ ?_
      | refine LeO.bind ?_ (fun _ => ?_)
theorem turnstilelaw6_PinRight.mono : ∀ a0 a1 a2 a3 k, LeO (turnstilelaw6_PinRight.f k a0 a1 a2 a3) (turnstilelaw6_PinRight.f (k + 1) a0 a1 a2 a3) := by
  intro a0 a1 a2 a3 k
  have ih0 := turnstilelaw6_PinRight.mono_l k
  unfold turnstilelaw6_PinRight.f
  repeat' first
      | (with_reducible exact ih0 _ _ _ _ _ _)
      | (with_reducible exact pin_Open.mono _ _ _ _)
      | (with_reducible exact turnstilelaw6_digits.mono _ _ _)
      | (with_reducible exact turnstilelaw6_filling.mono _ _ _ _)
      | (with_reducible exact turnstilelaw6_fit.mono _ _ _)
      | (with_reducible exact turnstilelaw6_known.mono _)
      | (with_reducible exact turnstilelaw6_number.mono _ _)
      | (with_reducible exact LeO.refl _)
      | (with_reducible exact LeO.none _)
      | (with_reducible refine LeO.ite ?_ ?_)
      | (with_reducible refine LeO.bind ?_ (fun _ => ?_))
      | exact ih0 _ _ _ _ _ _
      | exact pin_Open.mono _ _ _ _
      | exact turnstilelaw6_digits.mono _ _ _
      | exact turnstilelaw6_filling.mono _ _ _ _
      | exact turnstilelaw6_fit.mono _ _ _
      | exact turnstilelaw6_known.mono _
      | exact turnstilelaw6_number.mono _ _
      | exact LeO.none _
      | refine LeO.ite ?_ ?_
      | refine LeO.bind ?_ (fun _ => ?_)
set_option maxHeartbeats 8000000 in
set_option maxRecDepth 100000 in
theorem turnstilelaw6_PinRight.calls (k : Nat) (a0 : Int) (a1 : ByteArray) (a2 : ByteArray) (a3 : Int) (r : Bool) (w : World) (h : turnstilelaw6_PinRight.f k a0 a1 a2 a3 = some r) :
    Calls Tryd.prog 4 #[.int .i64 a0, .string a1, .string a2, .int .i64 a3] w fun e w' => e = .returned (.bool r) ∧ Below w.heap.size w w' := by
  have HB := Aside0.mk (Below.refl w.heap.size w)
  have H : ((turnstilelaw6_known.f k).bind fun t234 => ((turnstilelaw6_which.f a0).bind fun t235 => ((turnstilelaw6_fit.f k a1 8).bind fun t236 => ((turnstilelaw6_pick.f a3 7).bind fun t237 => ((turnstilelaw6_digits.f k a2 (wrap64 (13 + t237))).bind fun t238 => ((pin_Open.f k t235 t236 t238).bind fun bt239 => (if bt239.2 = 0 then ((turnstilelaw6_number.f k bt239.1).bind fun t241 => (if (bt239.1.size : Int) < 4 then (turnstilelaw6_PinRight.j0 k t234 t235 t236 t238 bt239.1 true) else (if (bt239.1.size : Int) > 12 then (turnstilelaw6_PinRight.j0 k t234 t235 t236 t238 bt239.1 true) else (if 0 < (t236.size : Int) then (if (bt239.1.size : Int) = (Int.tmod (wrap64 (bt t236 0)) 16) then (turnstilelaw6_PinRight.j0 k t234 t235 t236 t238 bt239.1 (!t241)) else (turnstilelaw6_PinRight.j0 k t234 t235 t236 t238 bt239.1 true)) else (none))))) else (if t234 = true then (if bt239.1.toList = ([] : List UInt8) then (if bt239.2 = 61 then (if 0 < (t236.size : Int) then (some ((bt239.2 == 61) == ((wrap64 (Int.tdiv (wrap64 (bt t236 0)) 16)) != t235))) else (none)) else (if bt239.2 = 60 then (if 0 < (t236.size : Int) then (some ((bt239.2 == 61) == ((wrap64 (Int.tdiv (wrap64 (bt t236 0)) 16)) != t235))) else (none)) else (some false))) else (some false)) else (some false))))))))) = some r := h
  clear h
  replace H := Option.bind_eq_some_iff.mp H
  obtain ⟨t234, A50, H⟩ := H
  replace H : ((turnstilelaw6_which.f a0).bind fun t235 => ((turnstilelaw6_fit.f k a1 8).bind fun t236 => ((turnstilelaw6_pick.f a3 7).bind fun t237 => ((turnstilelaw6_digits.f k a2 (wrap64 (13 + t237))).bind fun t238 => ((pin_Open.f k t235 t236 t238).bind fun bt239 => (if bt239.2 = 0 then ((turnstilelaw6_number.f k bt239.1).bind fun t241 => (if (bt239.1.size : Int) < 4 then (turnstilelaw6_PinRight.j0 k t234 t235 t236 t238 bt239.1 true) else (if (bt239.1.size : Int) > 12 then (turnstilelaw6_PinRight.j0 k t234 t235 t236 t238 bt239.1 true) else (if 0 < (t236.size : Int) then (if (bt239.1.size : Int) = (Int.tmod (wrap64 (bt t236 0)) 16) then (turnstilelaw6_PinRight.j0 k t234 t235 t236 t238 bt239.1 (!t241)) else (turnstilelaw6_PinRight.j0 k t234 t235 t236 t238 bt239.1 true)) else (none))))) else (if t234 = true then (if bt239.1.toList = ([] : List UInt8) then (if bt239.2 = 61 then (if 0 < (t236.size : Int) then (some ((bt239.2 == 61) == ((wrap64 (Int.tdiv (wrap64 (bt t236 0)) 16)) != t235))) else (none)) else (if bt239.2 = 60 then (if 0 < (t236.size : Int) then (some ((bt239.2 == 61) == ((wrap64 (Int.tdiv (wrap64 (bt t236 0)) 16)) != t235))) else (none)) else (some false))) else (some false)) else (some false)))))))) = some r := H
  have A5 := Aside0.mk A50
  clear A50
  replace H := Option.bind_eq_some_iff.mp H
  obtain ⟨t235, A60, H⟩ := H
  replace H : ((turnstilelaw6_fit.f k a1 8).bind fun t236 => ((turnstilelaw6_pick.f a3 7).bind fun t237 => ((turnstilelaw6_digits.f k a2 (wrap64 (13 + t237))).bind fun t238 => ((pin_Open.f k t235 t236 t238).bind fun bt239 => (if bt239.2 = 0 then ((turnstilelaw6_number.f k bt239.1).bind fun t241 => (if (bt239.1.size : Int) < 4 then (turnstilelaw6_PinRight.j0 k t234 t235 t236 t238 bt239.1 true) else (if (bt239.1.size : Int) > 12 then (turnstilelaw6_PinRight.j0 k t234 t235 t236 t238 bt239.1 true) else (if 0 < (t236.size : Int) then (if (bt239.1.size : Int) = (Int.tmod (wrap64 (bt t236 0)) 16) then (turnstilelaw6_PinRight.j0 k t234 t235 t236 t238 bt239.1 (!t241)) else (turnstilelaw6_PinRight.j0 k t234 t235 t236 t238 bt239.1 true)) else (none))))) else (if t234 = true then (if bt239.1.toList = ([] : List UInt8) then (if bt239.2 = 61 then (if 0 < (t236.size : Int) then (some ((bt239.2 == 61) == ((wrap64 (Int.tdiv (wrap64 (bt t236 0)) 16)) != t235))) else (none)) else (if bt239.2 = 60 then (if 0 < (t236.size : Int) then (some ((bt239.2 == 61) == ((wrap64 (Int.tdiv (wrap64 (bt t236 0)) 16)) != t235))) else (none)) else (some false))) else (some false)) else (some false))))))) = some r := H
  have A6 := Aside0.mk A60
  clear A60
  replace H := Option.bind_eq_some_iff.mp H
  obtain ⟨t236, A70, H⟩ := H
  replace H : ((turnstilelaw6_pick.f a3 7).bind fun t237 => ((turnstilelaw6_digits.f k a2 (wrap64 (13 + t237))).bind fun t238 => ((pin_Open.f k t235 t236 t238).bind fun bt239 => (if bt239.2 = 0 then ((turnstilelaw6_number.f k bt239.1).bind fun t241 => (if (bt239.1.size : Int) < 4 then (turnstilelaw6_PinRight.j0 k t234 t235 t236 t238 bt239.1 true) else (if (bt239.1.size : Int) > 12 then (turnstilelaw6_PinRight.j0 k t234 t235 t236 t238 bt239.1 true) else (if 0 < (t236.size : Int) then (if (bt239.1.size : Int) = (Int.tmod (wrap64 (bt t236 0)) 16) then (turnstilelaw6_PinRight.j0 k t234 t235 t236 t238 bt239.1 (!t241)) else (turnstilelaw6_PinRight.j0 k t234 t235 t236 t238 bt239.1 true)) else (none))))) else (if t234 = true then (if bt239.1.toList = ([] : List UInt8) then (if bt239.2 = 61 then (if 0 < (t236.size : Int) then (some ((bt239.2 == 61) == ((wrap64 (Int.tdiv (wrap64 (bt t236 0)) 16)) != t235))) else (none)) else (if bt239.2 = 60 then (if 0 < (t236.size : Int) then (some ((bt239.2 == 61) == ((wrap64 (Int.tdiv (wrap64 (bt t236 0)) 16)) != t235))) else (none)) else (some false))) else (some false)) else (some false)))))) = some r := H
  have A7 := Aside0.mk A70
  clear A70
  replace H := Option.bind_eq_some_iff.mp H
  obtain ⟨t237, A80, H⟩ := H
  replace H : ((turnstilelaw6_digits.f k a2 (wrap64 (13 + t237))).bind fun t238 => ((pin_Open.f k t235 t236 t238).bind fun bt239 => (if bt239.2 = 0 then ((turnstilelaw6_number.f k bt239.1).bind fun t241 => (if (bt239.1.size : Int) < 4 then (turnstilelaw6_PinRight.j0 k t234 t235 t236 t238 bt239.1 true) else (if (bt239.1.size : Int) > 12 then (turnstilelaw6_PinRight.j0 k t234 t235 t236 t238 bt239.1 true) else (if 0 < (t236.size : Int) then (if (bt239.1.size : Int) = (Int.tmod (wrap64 (bt t236 0)) 16) then (turnstilelaw6_PinRight.j0 k t234 t235 t236 t238 bt239.1 (!t241)) else (turnstilelaw6_PinRight.j0 k t234 t235 t236 t238 bt239.1 true)) else (none))))) else (if t234 = true then (if bt239.1.toList = ([] : List UInt8) then (if bt239.2 = 61 then (if 0 < (t236.size : Int) then (some ((bt239.2 == 61) == ((wrap64 (Int.tdiv (wrap64 (bt t236 0)) 16)) != t235))) else (none)) else (if bt239.2 = 60 then (if 0 < (t236.size : Int) then (some ((bt239.2 == 61) == ((wrap64 (Int.tdiv (wrap64 (bt t236 0)) 16)) != t235))) else (none)) else (some false))) else (some false)) else (some false))))) = some r := H
  have A8 := Aside0.mk A80
  clear A80
  replace H := Option.bind_eq_some_iff.mp H
  obtain ⟨t238, A90, H⟩ := H
  replace H : ((pin_Open.f k t235 t236 t238).bind fun bt239 => (if bt239.2 = 0 then ((turnstilelaw6_number.f k bt239.1).bind fun t241 => (if (bt239.1.size : Int) < 4 then (turnstilelaw6_PinRight.j0 k t234 t235 t236 t238 bt239.1 true) else (if (bt239.1.size : Int) > 12 then (turnstilelaw6_PinRight.j0 k t234 t235 t236 t238 bt239.1 true) else (if 0 < (t236.size : Int) then (if (bt239.1.size : Int) = (Int.tmod (wrap64 (bt t236 0)) 16) then (turnstilelaw6_PinRight.j0 k t234 t235 t236 t238 bt239.1 (!t241)) else (turnstilelaw6_PinRight.j0 k t234 t235 t236 t238 bt239.1 true)) else (none))))) else (if t234 = true then (if bt239.1.toList = ([] : List UInt8) then (if bt239.2 = 61 then (if 0 < (t236.size : Int) then (some ((bt239.2 == 61) == ((wrap64 (Int.tdiv (wrap64 (bt t236 0)) 16)) != t235))) else (none)) else (if bt239.2 = 60 then (if 0 < (t236.size : Int) then (some ((bt239.2 == 61) == ((wrap64 (Int.tdiv (wrap64 (bt t236 0)) 16)) != t235))) else (none)) else (some false))) else (some false)) else (some false)))) = some r := H
  have A9 := Aside0.mk A90
  clear A90
  replace H := Option.bind_eq_some_iff.mp H
  obtain ⟨⟨t239, t240⟩, A100, H⟩ := H
  replace H : (if t240 = 0 then ((turnstilelaw6_number.f k t239).bind fun t241 => (if (t239.size : Int) < 4 then (turnstilelaw6_PinRight.j0 k t234 t235 t236 t238 t239 true) else (if (t239.size : Int) > 12 then (turnstilelaw6_PinRight.j0 k t234 t235 t236 t238 t239 true) else (if 0 < (t236.size : Int) then (if (t239.size : Int) = (Int.tmod (wrap64 (bt t236 0)) 16) then (turnstilelaw6_PinRight.j0 k t234 t235 t236 t238 t239 (!t241)) else (turnstilelaw6_PinRight.j0 k t234 t235 t236 t238 t239 true)) else (none))))) else (if t234 = true then (if t239.toList = ([] : List UInt8) then (if t240 = 61 then (if 0 < (t236.size : Int) then (some ((t240 == 61) == ((wrap64 (Int.tdiv (wrap64 (bt t236 0)) 16)) != t235))) else (none)) else (if t240 = 60 then (if 0 < (t236.size : Int) then (some ((t240 == 61) == ((wrap64 (Int.tdiv (wrap64 (bt t236 0)) 16)) != t235))) else (none)) else (some false))) else (some false)) else (some false))) = some r := H
  have A10 := Aside0.mk A100
  clear A100
  by_cases c11 : t240 = 0
  · rw [if_pos c11] at H
    have c11b0 : (t240 == 0) = true := beq_iff_eq.mpr c11
    have c11b1 : (t240 != 0) = false := bne_eq_false_iff_eq.mpr c11
    clear c11
    replace H := Option.bind_eq_some_iff.mp H
    obtain ⟨t241, A120, H⟩ := H
    replace H : (if (t239.size : Int) < 4 then (turnstilelaw6_PinRight.j0 k t234 t235 t236 t238 t239 true) else (if (t239.size : Int) > 12 then (turnstilelaw6_PinRight.j0 k t234 t235 t236 t238 t239 true) else (if 0 < (t236.size : Int) then (if (t239.size : Int) = (Int.tmod (wrap64 (bt t236 0)) 16) then (turnstilelaw6_PinRight.j0 k t234 t235 t236 t238 t239 (!t241)) else (turnstilelaw6_PinRight.j0 k t234 t235 t236 t238 t239 true)) else (none)))) = some r := H
    have A12 := Aside0.mk A120
    clear A120
    have HC13 := Aside0.mk H
    clear H
    go_enter Tryd.func4, Tryd.ntmps4
    go_upto_region 9 with (first | ((with_reducible refine gate_callee (f := 9) rfl ?_); refine goesL_ (some 20) rfl rfl Tryd.func9 (by kernel_rfl) rfl #[] rfl (by (try simp only [List.map_toArray, List.map_cons, List.map_nil]); first | done | rfl | (simp only [List.length_drop, List.length_take]; rfl)) ?_; (with_reducible refine (turnstilelaw6_known.calls k  t234 _ A5.out).mono ?_); rintro e w14 ⟨rfl, hb⟩; refine ⟨_, rfl, ?_⟩; have n0_ := Aside0.mk (below_step (by repeat (first | (with_reducible first | exact HB.out | apply below_alloc | apply pw_below_drewN | apply below_drew1) | exact HB.out)) hb); clear HB; have HB := n0_; clear n0_; (try clear hb); (try clear hb2); (try clear hk); (try clear hi)) | ((with_reducible refine gate_callee (f := 14) rfl ?_); refine goesL_ (some 22) rfl rfl Tryd.func14 (by kernel_rfl) rfl #[.int .i64 a0] rfl (by (try simp only [List.map_toArray, List.map_cons, List.map_nil]); first | done | rfl | (simp only [List.length_drop, List.length_take]; rfl)) ?_; (with_reducible refine (turnstilelaw6_which.calls a0 t235 _ A6.out).mono ?_); rintro e w15 ⟨rfl, hb⟩; refine ⟨_, rfl, ?_⟩; have n0_ := Aside0.mk (below_step (by repeat (first | (with_reducible first | exact HB.out | apply below_alloc | apply pw_below_drewN | apply below_drew1) | exact HB.out)) hb); clear HB; have HB := n0_; clear n0_; (try clear hb); (try clear hb2); (try clear hk); (try clear hi)) | ((with_reducible refine gate_callee (f := 15) rfl ?_); refine goesL_ (some 24) rfl rfl Tryd.func15 (by kernel_rfl) rfl #[.string a1, .int .i64 8] rfl (by (try simp only [List.map_toArray, List.map_cons, List.map_nil]); first | done | rfl | (simp only [List.length_drop, List.length_take]; rfl)) ?_; (with_reducible refine (turnstilelaw6_fit.calls k a1 8 t236 _ A7.out).mono ?_); rintro e w16 ⟨rfl, hb⟩; refine ⟨_, rfl, ?_⟩; have n0_ := Aside0.mk (below_step (by repeat (first | (with_reducible first | exact HB.out | apply below_alloc | apply pw_below_drewN | apply below_drew1) | exact HB.out)) hb); clear HB; have HB := n0_; clear n0_; (try clear hb); (try clear hb2); (try clear hk); (try clear hi)) | ((with_reducible refine gate_callee (f := 17) rfl ?_); refine goesL_ (some 27) rfl rfl Tryd.func17 (by kernel_rfl) rfl #[.int .i64 a3, .int .i64 7] rfl (by (try simp only [List.map_toArray, List.map_cons, List.map_nil]); first | done | rfl | (simp only [List.length_drop, List.length_take]; rfl)) ?_; (with_reducible refine (turnstilelaw6_pick.calls a3 7 t237 _ A8.out).mono ?_); rintro e w' ⟨rfl, ⟨nd, rfl⟩⟩; refine ⟨_, rfl, ?_⟩) | ((with_reducible refine gate_callee (f := 16) rfl ?_); refine goesL_ (some 29) rfl rfl Tryd.func16 (by kernel_rfl) rfl #[.string a2, .int .i64 (wrap64 (13 + t237))] rfl (by (try simp only [List.map_toArray, List.map_cons, List.map_nil]); first | done | rfl | (simp only [List.length_drop, List.length_take]; rfl)) ?_; (with_reducible refine (turnstilelaw6_digits.calls k a2 (wrap64 (13 + t237)) t238 _ A9.out).mono ?_); rintro e w17 ⟨rfl, hb⟩; refine ⟨_, rfl, ?_⟩; have n0_ := Aside0.mk (below_step (by repeat (first | (with_reducible first | exact HB.out | apply below_alloc | apply pw_below_drewN | apply below_drew1) | exact HB.out)) hb); clear HB; have HB := n0_; clear n0_; (try clear hb); (try clear hb2); (try clear hk); (try clear hi)) | ((with_reducible refine gate_callee (f := 12) rfl ?_); refine goesL_ (some 34) rfl rfl Tryd.func12 (by kernel_rfl) rfl #[.int .i64 t235, .string t236, .string t238] rfl (by (try simp only [List.map_toArray, List.map_cons, List.map_nil]); first | done | rfl | (simp only [List.length_drop, List.length_take]; rfl)) ?_; (with_reducible refine (pin_Open.calls k t235 t236 t238 t239 t240 _ A10.out).mono ?_); rintro e w18 ⟨rfl, hb⟩; refine ⟨_, rfl, ?_⟩; have n0_ := Aside0.mk (below_step (by repeat (first | (with_reducible first | exact HB.out | apply below_alloc | apply pw_below_drewN | apply below_drew1) | exact HB.out)) hb); clear HB; have HB := n0_; clear n0_; (try clear hb); (try clear hb2); (try clear hk); (try clear hi)) | ((with_reducible refine gate_callee (f := 18) rfl ?_); refine goesL_ (some 64) rfl rfl Tryd.func18 (by kernel_rfl) rfl #[.string t239] rfl (by (try simp only [List.map_toArray, List.map_cons, List.map_nil]); first | done | rfl | (simp only [List.length_drop, List.length_take]; rfl)) ?_; (with_reducible refine (turnstilelaw6_number.calls k t239 t241 _ A12.out).mono ?_); rintro e w' ⟨rfl, ⟨nd, rfl⟩⟩; refine ⟨_, rfl, ?_⟩))
    (try simp only [Act.put, List.setIfInBounds_toArray, List.set_cons_zero, List.set_cons_succ])
    go_cut [85] (fun v85 wc => ∃ (kq : Nat) (x85_12 : Bool), v85 = .bool x85_12 ∧ Aside0 (turnstilelaw6_PinRight.j0 kq t234 t235 t236 t238 t239 x85_12 = some r) ∧ Aside0 (kq ≤ k) ∧ Aside0 (Below w.heap.size w wc))
    case first =>
      have H := HC13.out
      clear HC13
      by_cases c19 : (t239.size : Int) < 4
      · rw [if_pos c19] at H
        have c19b0 : decide ((t239.size : Int) < 4) = true := decide_eq_true c19
        have c19b1 : decide (t239.size < 4) = true := decide_eq_true (by omega)
        clear c19
        (first | rw [c19b0] | (simp only [i64_w, i32_w]; rw [c19b0]) | skip)
        have H' := Aside0.mk H
        clear H
        go_wp2
        go_meet
        case rel => exact ⟨_, (true), (by first | rfl | (simp; done) | (simp [*]; done)), H', ⟨by first | omega | exact Nat.le_refl _⟩, ⟨by repeat (first | (with_reducible first | exact HB.out | apply below_alloc | apply pw_below_drewN | apply below_drew1) | exact HB.out)⟩⟩
      · rw [if_neg c19] at H
        have c19b0 : decide ((t239.size : Int) < 4) = false := decide_eq_false c19
        have c19b1 : decide (t239.size < 4) = false := decide_eq_false (by omega)
        clear c19
        (first | rw [c19b0] | (simp only [i64_w, i32_w]; rw [c19b0]) | skip)
        by_cases c20 : (t239.size : Int) > 12
        · rw [if_pos c20] at H
          have c20b0 : decide (12 < (t239.size : Int)) = true := decide_eq_true c20
          have c20b1 : decide (12 < t239.size) = true := decide_eq_true (by omega)
          clear c20
          have H' := Aside0.mk H
          clear H
          go_wp2
          go_meet
          case rel => exact ⟨_, (true), (by first | rfl | (simp; done) | (simp [*]; done)), H', ⟨by first | omega | exact Nat.le_refl _⟩, ⟨by repeat (first | (with_reducible first | exact HB.out | apply below_alloc | apply pw_below_drewN | apply below_drew1) | exact HB.out)⟩⟩
        · rw [if_neg c20] at H
          have c20b0 : decide (12 < (t239.size : Int)) = false := decide_eq_false c20
          have c20b1 : decide (12 < t239.size) = false := decide_eq_false (by omega)
          clear c20
          by_cases c21 : 0 < (t236.size : Int)
          · rw [if_pos c21] at H
            have c21b0 : decide (0 < (t236.size : Int)) = true := decide_eq_true c21
            have c21b1 : decide (0 < t236.size) = true := decide_eq_true (by omega)
            clear c21
            by_cases c23 : (t239.size : Int) = (Int.tmod (wrap64 (bt t236 0)) 16)
            · rw [if_pos c23] at H
              have c23b0 : ((t239.size : Int) == (Int.tmod (wrap64 (bt t236 0)) 16)) = true := beq_iff_eq.mpr c23
              have c23b1 : ((t239.size : Int) != (Int.tmod (wrap64 (bt t236 0)) 16)) = false := bne_eq_false_iff_eq.mpr c23
              clear c23
              have H' := Aside0.mk H
              clear H
              have p22 : 0 ≤ (0 : Int) := (by omega)
              have q22 : 0 < t236.size := (by have : (0 : Int) < (t236.size : Int) := of_decide_eq_true (by first | (with_reducible assumption) | assumption); omega)
              have hx22 : ∀ h : 0 < t236.size, ((t236[0]'h).toNat : Int) = bt t236 0 := bt_at t236 0
              clear p22
              have qi22 : (0 < (t236.size : Int)) = True := eq_true (of_decide_eq_true (by first | (with_reducible assumption) | assumption))
              replace q22 := eq_true q22
              go_wp2
              go_meet
              case rel => exact ⟨_, (!t241), (by first | rfl | (simp; done) | (simp [*]; done)), H', ⟨by first | omega | exact Nat.le_refl _⟩, ⟨by repeat (first | (with_reducible first | exact HB.out | apply below_alloc | apply pw_below_drewN | apply below_drew1) | exact HB.out)⟩⟩
            · rw [if_neg c23] at H
              have c23b0 : ((t239.size : Int) == (Int.tmod (wrap64 (bt t236 0)) 16)) = false := beq_eq_false_iff_ne.mpr c23
              have c23b1 : ((t239.size : Int) != (Int.tmod (wrap64 (bt t236 0)) 16)) = true := bne_iff_ne.mpr c23
              have H' := Aside0.mk H
              clear H
              have p22 : 0 ≤ (0 : Int) := (by omega)
              have q22 : 0 < t236.size := (by have : (0 : Int) < (t236.size : Int) := of_decide_eq_true (by first | (with_reducible assumption) | assumption); omega)
              have hx22 : ∀ h : 0 < t236.size, ((t236[0]'h).toNat : Int) = bt t236 0 := bt_at t236 0
              clear p22
              have qi22 : (0 < (t236.size : Int)) = True := eq_true (of_decide_eq_true (by first | (with_reducible assumption) | assumption))
              replace q22 := eq_true q22
              go_wp2
              go_meet
              case rel => exact ⟨_, (true), (by first | rfl | (simp; done) | (simp [*]; done)), H', ⟨by first | omega | exact Nat.le_refl _⟩, ⟨by repeat (first | (with_reducible first | exact HB.out | apply below_alloc | apply pw_below_drewN | apply below_drew1) | exact HB.out)⟩⟩
          · rw [if_neg c21] at H
            exact absurd H (by simp)
    case rest =>
      clear HC13
      try clear c1
      try clear c2
      try clear p2
      try clear q2
      try clear hx2
      try clear qi2
      try clear c4
      try clear p6
      try clear c9
      try clear c11
      try clear c11b0
      try clear c11b1
      try clear c12
      try clear c14
      try clear c15
      try clear c16
      try clear c17
      try clear c18
      try clear c19
      try clear c19b0
      try clear c19b1
      try clear c20
      try clear c20b0
      try clear c20b1
      try clear c21
      try clear c21b0
      try clear c21b1
      try clear p22
      try clear q22
      try clear hx22
      try clear qi22
      try clear c23
      try clear c23b0
      try clear c23b1
      try clear p22
      try clear q22
      obtain ⟨kq, x85_12, rfl, HA, HJ12, HB⟩ := hcut
      cases kq with
      | zero => exact absurd HA.out (by simp [turnstilelaw6_PinRight.j0])
      | succ kj12 =>
        have H := HA.out
        clear HA
        simp only [turnstilelaw6_PinRight.j0] at H
        by_cases c24 : x85_12 = true
        · subst c24
          have H1 : (some false) = some r := by rw [if_pos rfl] at H; exact H
          clear H
          have H := H1
          clear H1
          obtain rfl := Option.some.inj H
          go_wp2
          go_ret
          exact ⟨by first | rfl | (simp [errW_none, errW_some] <;> rfl) | (simp [*, errW_none, errW_some] <;> rfl), by repeat (first | (with_reducible first | exact HB.out | apply below_alloc | apply pw_below_drewN | apply below_drew1) | exact HB.out)⟩
        · replace c24 := Bool.eq_false_iff.mpr c24
          subst c24
          have H1 : ((turnstilelaw6_filling.f kj12 t235 (⟨#[]⟩ : ByteArray) (t239.size : Int)).bind fun t242 => ((pin_Block.f t235 t239 t238 t242).bind fun bt243 => ((pin_Open.f kj12 t235 bt243.1 t238).bind fun bt245 => (if t234 = true then (if bt243.2 = 0 then (if bt245.2 = 0 then (if bt245.1.toList = t239.toList then (if t235 = 0 then (some (bt243.1.toList == t236.toList)) else (some true)) else (some false)) else (some false)) else (some false)) else (some false))))) = some r := by rw [if_neg (show ¬ (false = true) by decide)] at H; exact H
          clear H
          have H := H1
          clear H1
          replace H := Option.bind_eq_some_iff.mp H
          obtain ⟨t242, A250, H⟩ := H
          replace H : ((pin_Block.f t235 t239 t238 t242).bind fun bt243 => ((pin_Open.f kj12 t235 bt243.1 t238).bind fun bt245 => (if t234 = true then (if bt243.2 = 0 then (if bt245.2 = 0 then (if bt245.1.toList = t239.toList then (if t235 = 0 then (some (bt243.1.toList == t236.toList)) else (some true)) else (some false)) else (some false)) else (some false)) else (some false)))) = some r := H
          have A25 := Aside0.mk A250
          clear A250
          replace H := Option.bind_eq_some_iff.mp H
          obtain ⟨⟨t243, t244⟩, A260, H⟩ := H
          replace H : ((pin_Open.f kj12 t235 t243 t238).bind fun bt245 => (if t234 = true then (if t244 = 0 then (if bt245.2 = 0 then (if bt245.1.toList = t239.toList then (if t235 = 0 then (some (t243.toList == t236.toList)) else (some true)) else (some false)) else (some false)) else (some false)) else (some false))) = some r := H
          have A26 := Aside0.mk A260
          clear A260
          replace H := Option.bind_eq_some_iff.mp H
          obtain ⟨⟨t245, t246⟩, A270, H⟩ := H
          replace H : (if t234 = true then (if t244 = 0 then (if t246 = 0 then (if t245.toList = t239.toList then (if t235 = 0 then (some (t243.toList == t236.toList)) else (some true)) else (some false)) else (some false)) else (some false)) else (some false)) = some r := H
          have A27 := Aside0.mk A270
          clear A270
          by_cases c28 : t234 = true
          · subst c28
            have H1 : (if t244 = 0 then (if t246 = 0 then (if t245.toList = t239.toList then (if t235 = 0 then (some (t243.toList == t236.toList)) else (some true)) else (some false)) else (some false)) else (some false)) = some r := by rw [if_pos rfl] at H; exact H
            clear H
            have H := H1
            clear H1
            by_cases c29 : t244 = 0
            · rw [if_pos c29] at H
              have c29b0 : (t244 == 0) = true := beq_iff_eq.mpr c29
              have c29b1 : (t244 != 0) = false := bne_eq_false_iff_eq.mpr c29
              clear c29
              by_cases c30 : t246 = 0
              · rw [if_pos c30] at H
                have c30b0 : (t246 == 0) = true := beq_iff_eq.mpr c30
                have c30b1 : (t246 != 0) = false := bne_eq_false_iff_eq.mpr c30
                clear c30
                by_cases c31 : t245.toList = t239.toList
                · rw [if_pos c31] at H
                  have c31b0 : (t245.toList == t239.toList) = true := beq_iff_eq.mpr c31
                  have c31b1 : (t245.toList != t239.toList) = false := bne_eq_false_iff_eq.mpr c31
                  clear c31
                  by_cases c32 : t235 = 0
                  · rw [if_pos c32] at H
                    have c32b0 : (t235 == 0) = true := beq_iff_eq.mpr c32
                    have c32b1 : (t235 != 0) = false := bne_eq_false_iff_eq.mpr c32
                    clear c32
                    obtain rfl := Option.some.inj H
                    go_wp2_with (first | ((with_reducible refine gate_callee (f := 19) rfl ?_); refine goesL_ (some 93) rfl rfl Tryd.func19 (by kernel_rfl) rfl #[.int .i64 t235, .string (⟨#[]⟩ : ByteArray), .int .i64 (t239.size : Int)] rfl (by (try simp only [List.map_toArray, List.map_cons, List.map_nil]); first | done | rfl | (simp only [List.length_drop, List.length_take]; rfl)) ?_; (with_reducible refine (turnstilelaw6_filling.calls kj12 t235 (⟨#[]⟩ : ByteArray) (t239.size : Int) t242 _ A25.out).mono ?_); rintro e w33 ⟨rfl, hb⟩; refine ⟨_, rfl, ?_⟩; have n0_ := Aside0.mk (below_step (by repeat (first | (with_reducible first | exact HB.out | apply below_alloc | apply pw_below_drewN | apply below_drew1) | exact HB.out)) hb); clear HB; have HB := n0_; clear n0_; (try clear hb); (try clear hb2); (try clear hk); (try clear hi)) | ((with_reducible refine gate_callee (f := 10) rfl ?_); refine goesL_ (some 94) rfl rfl Tryd.func10 (by kernel_rfl) rfl #[.int .i64 t235, .string t239, .string t238, .string t242] rfl (by (try simp only [List.map_toArray, List.map_cons, List.map_nil]); first | done | rfl | (simp only [List.length_drop, List.length_take]; rfl)) ?_; (with_reducible refine (pin_Block.calls t235 t239 t238 t242 t243 t244 _ A26.out).mono ?_); rintro e w34 ⟨rfl, hb⟩; refine ⟨_, rfl, ?_⟩; have n0_ := Aside0.mk (below_step (by repeat (first | (with_reducible first | exact HB.out | apply below_alloc | apply pw_below_drewN | apply below_drew1) | exact HB.out)) hb); clear HB; have HB := n0_; clear n0_; (try clear hb); (try clear hb2); (try clear hk); (try clear hi)) | ((with_reducible refine gate_callee (f := 12) rfl ?_); refine goesL_ (some 101) rfl rfl Tryd.func12 (by kernel_rfl) rfl #[.int .i64 t235, .string t243, .string t238] rfl (by (try simp only [List.map_toArray, List.map_cons, List.map_nil]); first | done | rfl | (simp only [List.length_drop, List.length_take]; rfl)) ?_; (with_reducible refine (pin_Open.calls kj12 t235 t243 t238 t245 t246 _ A27.out).mono ?_); rintro e w35 ⟨rfl, hb⟩; refine ⟨_, rfl, ?_⟩; have n0_ := Aside0.mk (below_step (by repeat (first | (with_reducible first | exact HB.out | apply below_alloc | apply pw_below_drewN | apply below_drew1) | exact HB.out)) hb); clear HB; have HB := n0_; clear n0_; (try clear hb); (try clear hb2); (try clear hk); (try clear hi)))
                    go_ret
                    exact ⟨by first | rfl | (simp [errW_none, errW_some] <;> rfl) | (simp [*, errW_none, errW_some] <;> rfl), by repeat (first | (with_reducible first | exact HB.out | apply below_alloc | apply pw_below_drewN | apply below_drew1) | exact HB.out)⟩
                  · rw [if_neg c32] at H
                    have c32b0 : (t235 == 0) = false := beq_eq_false_iff_ne.mpr c32
                    have c32b1 : (t235 != 0) = true := bne_iff_ne.mpr c32
                    obtain rfl := Option.some.inj H
                    go_wp2_with (first | ((with_reducible refine gate_callee (f := 19) rfl ?_); refine goesL_ (some 93) rfl rfl Tryd.func19 (by kernel_rfl) rfl #[.int .i64 t235, .string (⟨#[]⟩ : ByteArray), .int .i64 (t239.size : Int)] rfl (by (try simp only [List.map_toArray, List.map_cons, List.map_nil]); first | done | rfl | (simp only [List.length_drop, List.length_take]; rfl)) ?_; (with_reducible refine (turnstilelaw6_filling.calls kj12 t235 (⟨#[]⟩ : ByteArray) (t239.size : Int) t242 _ A25.out).mono ?_); rintro e w36 ⟨rfl, hb⟩; refine ⟨_, rfl, ?_⟩; have n0_ := Aside0.mk (below_step (by repeat (first | (with_reducible first | exact HB.out | apply below_alloc | apply pw_below_drewN | apply below_drew1) | exact HB.out)) hb); clear HB; have HB := n0_; clear n0_; (try clear hb); (try clear hb2); (try clear hk); (try clear hi)) | ((with_reducible refine gate_callee (f := 10) rfl ?_); refine goesL_ (some 94) rfl rfl Tryd.func10 (by kernel_rfl) rfl #[.int .i64 t235, .string t239, .string t238, .string t242] rfl (by (try simp only [List.map_toArray, List.map_cons, List.map_nil]); first | done | rfl | (simp only [List.length_drop, List.length_take]; rfl)) ?_; (with_reducible refine (pin_Block.calls t235 t239 t238 t242 t243 t244 _ A26.out).mono ?_); rintro e w37 ⟨rfl, hb⟩; refine ⟨_, rfl, ?_⟩; have n0_ := Aside0.mk (below_step (by repeat (first | (with_reducible first | exact HB.out | apply below_alloc | apply pw_below_drewN | apply below_drew1) | exact HB.out)) hb); clear HB; have HB := n0_; clear n0_; (try clear hb); (try clear hb2); (try clear hk); (try clear hi)) | ((with_reducible refine gate_callee (f := 12) rfl ?_); refine goesL_ (some 101) rfl rfl Tryd.func12 (by kernel_rfl) rfl #[.int .i64 t235, .string t243, .string t238] rfl (by (try simp only [List.map_toArray, List.map_cons, List.map_nil]); first | done | rfl | (simp only [List.length_drop, List.length_take]; rfl)) ?_; (with_reducible refine (pin_Open.calls kj12 t235 t243 t238 t245 t246 _ A27.out).mono ?_); rintro e w38 ⟨rfl, hb⟩; refine ⟨_, rfl, ?_⟩; have n0_ := Aside0.mk (below_step (by repeat (first | (with_reducible first | exact HB.out | apply below_alloc | apply pw_below_drewN | apply below_drew1) | exact HB.out)) hb); clear HB; have HB := n0_; clear n0_; (try clear hb); (try clear hb2); (try clear hk); (try clear hi)))
                    go_ret
                    exact ⟨by first | rfl | (simp [errW_none, errW_some] <;> rfl) | (simp [*, errW_none, errW_some] <;> rfl), by repeat (first | (with_reducible first | exact HB.out | apply below_alloc | apply pw_below_drewN | apply below_drew1) | exact HB.out)⟩
                · rw [if_neg c31] at H
                  have c31b0 : (t245.toList == t239.toList) = false := beq_eq_false_iff_ne.mpr c31
                  have c31b1 : (t245.toList != t239.toList) = true := bne_iff_ne.mpr c31
                  obtain rfl := Option.some.inj H
                  go_wp2_with (first | ((with_reducible refine gate_callee (f := 19) rfl ?_); refine goesL_ (some 93) rfl rfl Tryd.func19 (by kernel_rfl) rfl #[.int .i64 t235, .string (⟨#[]⟩ : ByteArray), .int .i64 (t239.size : Int)] rfl (by (try simp only [List.map_toArray, List.map_cons, List.map_nil]); first | done | rfl | (simp only [List.length_drop, List.length_take]; rfl)) ?_; (with_reducible refine (turnstilelaw6_filling.calls kj12 t235 (⟨#[]⟩ : ByteArray) (t239.size : Int) t242 _ A25.out).mono ?_); rintro e w39 ⟨rfl, hb⟩; refine ⟨_, rfl, ?_⟩; have n0_ := Aside0.mk (below_step (by repeat (first | (with_reducible first | exact HB.out | apply below_alloc | apply pw_below_drewN | apply below_drew1) | exact HB.out)) hb); clear HB; have HB := n0_; clear n0_; (try clear hb); (try clear hb2); (try clear hk); (try clear hi)) | ((with_reducible refine gate_callee (f := 10) rfl ?_); refine goesL_ (some 94) rfl rfl Tryd.func10 (by kernel_rfl) rfl #[.int .i64 t235, .string t239, .string t238, .string t242] rfl (by (try simp only [List.map_toArray, List.map_cons, List.map_nil]); first | done | rfl | (simp only [List.length_drop, List.length_take]; rfl)) ?_; (with_reducible refine (pin_Block.calls t235 t239 t238 t242 t243 t244 _ A26.out).mono ?_); rintro e w40 ⟨rfl, hb⟩; refine ⟨_, rfl, ?_⟩; have n0_ := Aside0.mk (below_step (by repeat (first | (with_reducible first | exact HB.out | apply below_alloc | apply pw_below_drewN | apply below_drew1) | exact HB.out)) hb); clear HB; have HB := n0_; clear n0_; (try clear hb); (try clear hb2); (try clear hk); (try clear hi)) | ((with_reducible refine gate_callee (f := 12) rfl ?_); refine goesL_ (some 101) rfl rfl Tryd.func12 (by kernel_rfl) rfl #[.int .i64 t235, .string t243, .string t238] rfl (by (try simp only [List.map_toArray, List.map_cons, List.map_nil]); first | done | rfl | (simp only [List.length_drop, List.length_take]; rfl)) ?_; (with_reducible refine (pin_Open.calls kj12 t235 t243 t238 t245 t246 _ A27.out).mono ?_); rintro e w41 ⟨rfl, hb⟩; refine ⟨_, rfl, ?_⟩; have n0_ := Aside0.mk (below_step (by repeat (first | (with_reducible first | exact HB.out | apply below_alloc | apply pw_below_drewN | apply below_drew1) | exact HB.out)) hb); clear HB; have HB := n0_; clear n0_; (try clear hb); (try clear hb2); (try clear hk); (try clear hi)))
                  go_ret
                  exact ⟨by first | rfl | (simp [errW_none, errW_some] <;> rfl) | (simp [*, errW_none, errW_some] <;> rfl), by repeat (first | (with_reducible first | exact HB.out | apply below_alloc | apply pw_below_drewN | apply below_drew1) | exact HB.out)⟩
              · rw [if_neg c30] at H
                have c30b0 : (t246 == 0) = false := beq_eq_false_iff_ne.mpr c30
                have c30b1 : (t246 != 0) = true := bne_iff_ne.mpr c30
                obtain rfl := Option.some.inj H
                go_wp2_with (first | ((with_reducible refine gate_callee (f := 19) rfl ?_); refine goesL_ (some 93) rfl rfl Tryd.func19 (by kernel_rfl) rfl #[.int .i64 t235, .string (⟨#[]⟩ : ByteArray), .int .i64 (t239.size : Int)] rfl (by (try simp only [List.map_toArray, List.map_cons, List.map_nil]); first | done | rfl | (simp only [List.length_drop, List.length_take]; rfl)) ?_; (with_reducible refine (turnstilelaw6_filling.calls kj12 t235 (⟨#[]⟩ : ByteArray) (t239.size : Int) t242 _ A25.out).mono ?_); rintro e w42 ⟨rfl, hb⟩; refine ⟨_, rfl, ?_⟩; have n0_ := Aside0.mk (below_step (by repeat (first | (with_reducible first | exact HB.out | apply below_alloc | apply pw_below_drewN | apply below_drew1) | exact HB.out)) hb); clear HB; have HB := n0_; clear n0_; (try clear hb); (try clear hb2); (try clear hk); (try clear hi)) | ((with_reducible refine gate_callee (f := 10) rfl ?_); refine goesL_ (some 94) rfl rfl Tryd.func10 (by kernel_rfl) rfl #[.int .i64 t235, .string t239, .string t238, .string t242] rfl (by (try simp only [List.map_toArray, List.map_cons, List.map_nil]); first | done | rfl | (simp only [List.length_drop, List.length_take]; rfl)) ?_; (with_reducible refine (pin_Block.calls t235 t239 t238 t242 t243 t244 _ A26.out).mono ?_); rintro e w43 ⟨rfl, hb⟩; refine ⟨_, rfl, ?_⟩; have n0_ := Aside0.mk (below_step (by repeat (first | (with_reducible first | exact HB.out | apply below_alloc | apply pw_below_drewN | apply below_drew1) | exact HB.out)) hb); clear HB; have HB := n0_; clear n0_; (try clear hb); (try clear hb2); (try clear hk); (try clear hi)) | ((with_reducible refine gate_callee (f := 12) rfl ?_); refine goesL_ (some 101) rfl rfl Tryd.func12 (by kernel_rfl) rfl #[.int .i64 t235, .string t243, .string t238] rfl (by (try simp only [List.map_toArray, List.map_cons, List.map_nil]); first | done | rfl | (simp only [List.length_drop, List.length_take]; rfl)) ?_; (with_reducible refine (pin_Open.calls kj12 t235 t243 t238 t245 t246 _ A27.out).mono ?_); rintro e w44 ⟨rfl, hb⟩; refine ⟨_, rfl, ?_⟩; have n0_ := Aside0.mk (below_step (by repeat (first | (with_reducible first | exact HB.out | apply below_alloc | apply pw_below_drewN | apply below_drew1) | exact HB.out)) hb); clear HB; have HB := n0_; clear n0_; (try clear hb); (try clear hb2); (try clear hk); (try clear hi)))
                go_ret
                exact ⟨by first | rfl | (simp [errW_none, errW_some] <;> rfl) | (simp [*, errW_none, errW_some] <;> rfl), by repeat (first | (with_reducible first | exact HB.out | apply below_alloc | apply pw_below_drewN | apply below_drew1) | exact HB.out)⟩
            · rw [if_neg c29] at H
              have c29b0 : (t244 == 0) = false := beq_eq_false_iff_ne.mpr c29
              have c29b1 : (t244 != 0) = true := bne_iff_ne.mpr c29
              obtain rfl := Option.some.inj H
              go_wp2_with (first | ((with_reducible refine gate_callee (f := 19) rfl ?_); refine goesL_ (some 93) rfl rfl Tryd.func19 (by kernel_rfl) rfl #[.int .i64 t235, .string (⟨#[]⟩ : ByteArray), .int .i64 (t239.size : Int)] rfl (by (try simp only [List.map_toArray, List.map_cons, List.map_nil]); first | done | rfl | (simp only [List.length_drop, List.length_take]; rfl)) ?_; (with_reducible refine (turnstilelaw6_filling.calls kj12 t235 (⟨#[]⟩ : ByteArray) (t239.size : Int) t242 _ A25.out).mono ?_); rintro e w45 ⟨rfl, hb⟩; refine ⟨_, rfl, ?_⟩; have n0_ := Aside0.mk (below_step (by repeat (first | (with_reducible first | exact HB.out | apply below_alloc | apply pw_below_drewN | apply below_drew1) | exact HB.out)) hb); clear HB; have HB := n0_; clear n0_; (try clear hb); (try clear hb2); (try clear hk); (try clear hi)) | ((with_reducible refine gate_callee (f := 10) rfl ?_); refine goesL_ (some 94) rfl rfl Tryd.func10 (by kernel_rfl) rfl #[.int .i64 t235, .string t239, .string t238, .string t242] rfl (by (try simp only [List.map_toArray, List.map_cons, List.map_nil]); first | done | rfl | (simp only [List.length_drop, List.length_take]; rfl)) ?_; (with_reducible refine (pin_Block.calls t235 t239 t238 t242 t243 t244 _ A26.out).mono ?_); rintro e w46 ⟨rfl, hb⟩; refine ⟨_, rfl, ?_⟩; have n0_ := Aside0.mk (below_step (by repeat (first | (with_reducible first | exact HB.out | apply below_alloc | apply pw_below_drewN | apply below_drew1) | exact HB.out)) hb); clear HB; have HB := n0_; clear n0_; (try clear hb); (try clear hb2); (try clear hk); (try clear hi)) | ((with_reducible refine gate_callee (f := 12) rfl ?_); refine goesL_ (some 101) rfl rfl Tryd.func12 (by kernel_rfl) rfl #[.int .i64 t235, .string t243, .string t238] rfl (by (try simp only [List.map_toArray, List.map_cons, List.map_nil]); first | done | rfl | (simp only [List.length_drop, List.length_take]; rfl)) ?_; (with_reducible refine (pin_Open.calls kj12 t235 t243 t238 t245 t246 _ A27.out).mono ?_); rintro e w47 ⟨rfl, hb⟩; refine ⟨_, rfl, ?_⟩; have n0_ := Aside0.mk (below_step (by repeat (first | (with_reducible first | exact HB.out | apply below_alloc | apply pw_below_drewN | apply below_drew1) | exact HB.out)) hb); clear HB; have HB := n0_; clear n0_; (try clear hb); (try clear hb2); (try clear hk); (try clear hi)))
              go_ret
              exact ⟨by first | rfl | (simp [errW_none, errW_some] <;> rfl) | (simp [*, errW_none, errW_some] <;> rfl), by repeat (first | (with_reducible first | exact HB.out | apply below_alloc | apply pw_below_drewN | apply below_drew1) | exact HB.out)⟩
          · replace c28 := Bool.eq_false_iff.mpr c28
            subst c28
            have H1 : (some false) = some r := by rw [if_neg (show ¬ (false = true) by decide)] at H; exact H
            clear H
            have H := H1
            clear H1
            obtain rfl := Option.some.inj H
            go_wp2_with (first | ((with_reducible refine gate_callee (f := 19) rfl ?_); refine goesL_ (some 93) rfl rfl Tryd.func19 (by kernel_rfl) rfl #[.int .i64 t235, .string (⟨#[]⟩ : ByteArray), .int .i64 (t239.size : Int)] rfl (by (try simp only [List.map_toArray, List.map_cons, List.map_nil]); first | done | rfl | (simp only [List.length_drop, List.length_take]; rfl)) ?_; (with_reducible refine (turnstilelaw6_filling.calls kj12 t235 (⟨#[]⟩ : ByteArray) (t239.size : Int) t242 _ A25.out).mono ?_); rintro e w48 ⟨rfl, hb⟩; refine ⟨_, rfl, ?_⟩; have n0_ := Aside0.mk (below_step (by repeat (first | (with_reducible first | exact HB.out | apply below_alloc | apply pw_below_drewN | apply below_drew1) | exact HB.out)) hb); clear HB; have HB := n0_; clear n0_; (try clear hb); (try clear hb2); (try clear hk); (try clear hi)) | ((with_reducible refine gate_callee (f := 10) rfl ?_); refine goesL_ (some 94) rfl rfl Tryd.func10 (by kernel_rfl) rfl #[.int .i64 t235, .string t239, .string t238, .string t242] rfl (by (try simp only [List.map_toArray, List.map_cons, List.map_nil]); first | done | rfl | (simp only [List.length_drop, List.length_take]; rfl)) ?_; (with_reducible refine (pin_Block.calls t235 t239 t238 t242 t243 t244 _ A26.out).mono ?_); rintro e w49 ⟨rfl, hb⟩; refine ⟨_, rfl, ?_⟩; have n0_ := Aside0.mk (below_step (by repeat (first | (with_reducible first | exact HB.out | apply below_alloc | apply pw_below_drewN | apply below_drew1) | exact HB.out)) hb); clear HB; have HB := n0_; clear n0_; (try clear hb); (try clear hb2); (try clear hk); (try clear hi)) | ((with_reducible refine gate_callee (f := 12) rfl ?_); refine goesL_ (some 101) rfl rfl Tryd.func12 (by kernel_rfl) rfl #[.int .i64 t235, .string t243, .string t238] rfl (by (try simp only [List.map_toArray, List.map_cons, List.map_nil]); first | done | rfl | (simp only [List.length_drop, List.length_take]; rfl)) ?_; (with_reducible refine (pin_Open.calls kj12 t235 t243 t238 t245 t246 _ A27.out).mono ?_); rintro e w50 ⟨rfl, hb⟩; refine ⟨_, rfl, ?_⟩; have n0_ := Aside0.mk (below_step (by repeat (first | (with_reducible first | exact HB.out | apply below_alloc | apply pw_below_drewN | apply below_drew1) | exact HB.out)) hb); clear HB; have HB := n0_; clear n0_; (try clear hb); (try clear hb2); (try clear hk); (try clear hi)))
            go_ret
            exact ⟨by first | rfl | (simp [errW_none, errW_some] <;> rfl) | (simp [*, errW_none, errW_some] <;> rfl), by repeat (first | (with_reducible first | exact HB.out | apply below_alloc | apply pw_below_drewN | apply below_drew1) | exact HB.out)⟩
  · rw [if_neg c11] at H
    have c11b0 : (t240 == 0) = false := beq_eq_false_iff_ne.mpr c11
    have c11b1 : (t240 != 0) = true := bne_iff_ne.mpr c11
    by_cases c51 : t234 = true
    · subst c51
      have H1 : (if t239.toList = ([] : List UInt8) then (if t240 = 61 then (if 0 < (t236.size : Int) then (some ((t240 == 61) == ((wrap64 (Int.tdiv (wrap64 (bt t236 0)) 16)) != t235))) else (none)) else (if t240 = 60 then (if 0 < (t236.size : Int) then (some ((t240 == 61) == ((wrap64 (Int.tdiv (wrap64 (bt t236 0)) 16)) != t235))) else (none)) else (some false))) else (some false)) = some r := by rw [if_pos rfl] at H; exact H
      clear H
      have H := H1
      clear H1
      by_cases c52 : t239.toList = ([] : List UInt8)
      · rw [if_pos c52] at H
        have c52b0 : (t239.toList == ([] : List UInt8)) = true := beq_iff_eq.mpr c52
        have c52b1 : (t239.toList != ([] : List UInt8)) = false := bne_eq_false_iff_eq.mpr c52
        clear c52
        by_cases c53 : t240 = 61
        · rw [if_pos c53] at H
          have c53b0 : (t240 == 61) = true := beq_iff_eq.mpr c53
          have c53b1 : (t240 != 61) = false := bne_eq_false_iff_eq.mpr c53
          clear c53
          by_cases c54 : 0 < (t236.size : Int)
          · rw [if_pos c54] at H
            have c54b0 : decide (0 < (t236.size : Int)) = true := decide_eq_true c54
            have c54b1 : decide (0 < t236.size) = true := decide_eq_true (by omega)
            clear c54
            obtain rfl := Option.some.inj H
            go_enter Tryd.func4, Tryd.ntmps4
            go_wp2_with (first | ((with_reducible refine gate_callee (f := 9) rfl ?_); refine goesL_ (some 20) rfl rfl Tryd.func9 (by kernel_rfl) rfl #[] rfl (by (try simp only [List.map_toArray, List.map_cons, List.map_nil]); first | done | rfl | (simp only [List.length_drop, List.length_take]; rfl)) ?_; (with_reducible refine (turnstilelaw6_known.calls k  true _ A5.out).mono ?_); rintro e w56 ⟨rfl, hb⟩; refine ⟨_, rfl, ?_⟩; have n0_ := Aside0.mk (below_step (by repeat (first | (with_reducible first | exact HB.out | apply below_alloc | apply pw_below_drewN | apply below_drew1) | exact HB.out)) hb); clear HB; have HB := n0_; clear n0_; (try clear hb); (try clear hb2); (try clear hk); (try clear hi)) | ((with_reducible refine gate_callee (f := 14) rfl ?_); refine goesL_ (some 22) rfl rfl Tryd.func14 (by kernel_rfl) rfl #[.int .i64 a0] rfl (by (try simp only [List.map_toArray, List.map_cons, List.map_nil]); first | done | rfl | (simp only [List.length_drop, List.length_take]; rfl)) ?_; (with_reducible refine (turnstilelaw6_which.calls a0 t235 _ A6.out).mono ?_); rintro e w57 ⟨rfl, hb⟩; refine ⟨_, rfl, ?_⟩; have n0_ := Aside0.mk (below_step (by repeat (first | (with_reducible first | exact HB.out | apply below_alloc | apply pw_below_drewN | apply below_drew1) | exact HB.out)) hb); clear HB; have HB := n0_; clear n0_; (try clear hb); (try clear hb2); (try clear hk); (try clear hi)) | ((with_reducible refine gate_callee (f := 15) rfl ?_); refine goesL_ (some 24) rfl rfl Tryd.func15 (by kernel_rfl) rfl #[.string a1, .int .i64 8] rfl (by (try simp only [List.map_toArray, List.map_cons, List.map_nil]); first | done | rfl | (simp only [List.length_drop, List.length_take]; rfl)) ?_; (with_reducible refine (turnstilelaw6_fit.calls k a1 8 t236 _ A7.out).mono ?_); rintro e w58 ⟨rfl, hb⟩; refine ⟨_, rfl, ?_⟩; have n0_ := Aside0.mk (below_step (by repeat (first | (with_reducible first | exact HB.out | apply below_alloc | apply pw_below_drewN | apply below_drew1) | exact HB.out)) hb); clear HB; have HB := n0_; clear n0_; (try clear hb); (try clear hb2); (try clear hk); (try clear hi)) | ((with_reducible refine gate_callee (f := 17) rfl ?_); refine goesL_ (some 27) rfl rfl Tryd.func17 (by kernel_rfl) rfl #[.int .i64 a3, .int .i64 7] rfl (by (try simp only [List.map_toArray, List.map_cons, List.map_nil]); first | done | rfl | (simp only [List.length_drop, List.length_take]; rfl)) ?_; (with_reducible refine (turnstilelaw6_pick.calls a3 7 t237 _ A8.out).mono ?_); rintro e w' ⟨rfl, ⟨nd, rfl⟩⟩; refine ⟨_, rfl, ?_⟩) | ((with_reducible refine gate_callee (f := 16) rfl ?_); refine goesL_ (some 29) rfl rfl Tryd.func16 (by kernel_rfl) rfl #[.string a2, .int .i64 (wrap64 (13 + t237))] rfl (by (try simp only [List.map_toArray, List.map_cons, List.map_nil]); first | done | rfl | (simp only [List.length_drop, List.length_take]; rfl)) ?_; (with_reducible refine (turnstilelaw6_digits.calls k a2 (wrap64 (13 + t237)) t238 _ A9.out).mono ?_); rintro e w59 ⟨rfl, hb⟩; refine ⟨_, rfl, ?_⟩; have n0_ := Aside0.mk (below_step (by repeat (first | (with_reducible first | exact HB.out | apply below_alloc | apply pw_below_drewN | apply below_drew1) | exact HB.out)) hb); clear HB; have HB := n0_; clear n0_; (try clear hb); (try clear hb2); (try clear hk); (try clear hi)) | ((with_reducible refine gate_callee (f := 12) rfl ?_); refine goesL_ (some 34) rfl rfl Tryd.func12 (by kernel_rfl) rfl #[.int .i64 t235, .string t236, .string t238] rfl (by (try simp only [List.map_toArray, List.map_cons, List.map_nil]); first | done | rfl | (simp only [List.length_drop, List.length_take]; rfl)) ?_; (with_reducible refine (pin_Open.calls k t235 t236 t238 t239 t240 _ A10.out).mono ?_); rintro e w60 ⟨rfl, hb⟩; refine ⟨_, rfl, ?_⟩; have n0_ := Aside0.mk (below_step (by repeat (first | (with_reducible first | exact HB.out | apply below_alloc | apply pw_below_drewN | apply below_drew1) | exact HB.out)) hb); clear HB; have HB := n0_; clear n0_; (try clear hb); (try clear hb2); (try clear hk); (try clear hi); have p55 : 0 ≤ (0 : Int) := (by omega); have q55 : 0 < t236.size := (by have : (0 : Int) < (t236.size : Int) := of_decide_eq_true (by first | (with_reducible assumption) | assumption); omega); have hx55 : ∀ h : 0 < t236.size, ((t236[0]'h).toNat : Int) = bt t236 0 := bt_at t236 0; clear p55; have qi55 : (0 < (t236.size : Int)) = True := eq_true (of_decide_eq_true (by first | (with_reducible assumption) | assumption)); replace q55 := eq_true q55))
            go_ret
            exact ⟨by first | rfl | (simp [errW_none, errW_some] <;> rfl) | (simp [*, errW_none, errW_some] <;> rfl), by repeat (first | (with_reducible first | exact HB.out | apply below_alloc | apply pw_below_drewN | apply below_drew1) | exact HB.out)⟩
          · rw [if_neg c54] at H
            exact absurd H (by simp)
        · rw [if_neg c53] at H
          have c53b0 : (t240 == 61) = false := beq_eq_false_iff_ne.mpr c53
          have c53b1 : (t240 != 61) = true := bne_iff_ne.mpr c53
          by_cases c61 : t240 = 60
          · rw [if_pos c61] at H
            have c61b0 : (t240 == 60) = true := beq_iff_eq.mpr c61
            have c61b1 : (t240 != 60) = false := bne_eq_false_iff_eq.mpr c61
            clear c61
            by_cases c62 : 0 < (t236.size : Int)
            · rw [if_pos c62] at H
              have c62b0 : decide (0 < (t236.size : Int)) = true := decide_eq_true c62
              have c62b1 : decide (0 < t236.size) = true := decide_eq_true (by omega)
              clear c62
              obtain rfl := Option.some.inj H
              go_enter Tryd.func4, Tryd.ntmps4
              go_wp2_with (first | ((with_reducible refine gate_callee (f := 9) rfl ?_); refine goesL_ (some 20) rfl rfl Tryd.func9 (by kernel_rfl) rfl #[] rfl (by (try simp only [List.map_toArray, List.map_cons, List.map_nil]); first | done | rfl | (simp only [List.length_drop, List.length_take]; rfl)) ?_; (with_reducible refine (turnstilelaw6_known.calls k  true _ A5.out).mono ?_); rintro e w64 ⟨rfl, hb⟩; refine ⟨_, rfl, ?_⟩; have n0_ := Aside0.mk (below_step (by repeat (first | (with_reducible first | exact HB.out | apply below_alloc | apply pw_below_drewN | apply below_drew1) | exact HB.out)) hb); clear HB; have HB := n0_; clear n0_; (try clear hb); (try clear hb2); (try clear hk); (try clear hi)) | ((with_reducible refine gate_callee (f := 14) rfl ?_); refine goesL_ (some 22) rfl rfl Tryd.func14 (by kernel_rfl) rfl #[.int .i64 a0] rfl (by (try simp only [List.map_toArray, List.map_cons, List.map_nil]); first | done | rfl | (simp only [List.length_drop, List.length_take]; rfl)) ?_; (with_reducible refine (turnstilelaw6_which.calls a0 t235 _ A6.out).mono ?_); rintro e w65 ⟨rfl, hb⟩; refine ⟨_, rfl, ?_⟩; have n0_ := Aside0.mk (below_step (by repeat (first | (with_reducible first | exact HB.out | apply below_alloc | apply pw_below_drewN | apply below_drew1) | exact HB.out)) hb); clear HB; have HB := n0_; clear n0_; (try clear hb); (try clear hb2); (try clear hk); (try clear hi)) | ((with_reducible refine gate_callee (f := 15) rfl ?_); refine goesL_ (some 24) rfl rfl Tryd.func15 (by kernel_rfl) rfl #[.string a1, .int .i64 8] rfl (by (try simp only [List.map_toArray, List.map_cons, List.map_nil]); first | done | rfl | (simp only [List.length_drop, List.length_take]; rfl)) ?_; (with_reducible refine (turnstilelaw6_fit.calls k a1 8 t236 _ A7.out).mono ?_); rintro e w66 ⟨rfl, hb⟩; refine ⟨_, rfl, ?_⟩; have n0_ := Aside0.mk (below_step (by repeat (first | (with_reducible first | exact HB.out | apply below_alloc | apply pw_below_drewN | apply below_drew1) | exact HB.out)) hb); clear HB; have HB := n0_; clear n0_; (try clear hb); (try clear hb2); (try clear hk); (try clear hi)) | ((with_reducible refine gate_callee (f := 17) rfl ?_); refine goesL_ (some 27) rfl rfl Tryd.func17 (by kernel_rfl) rfl #[.int .i64 a3, .int .i64 7] rfl (by (try simp only [List.map_toArray, List.map_cons, List.map_nil]); first | done | rfl | (simp only [List.length_drop, List.length_take]; rfl)) ?_; (with_reducible refine (turnstilelaw6_pick.calls a3 7 t237 _ A8.out).mono ?_); rintro e w' ⟨rfl, ⟨nd, rfl⟩⟩; refine ⟨_, rfl, ?_⟩) | ((with_reducible refine gate_callee (f := 16) rfl ?_); refine goesL_ (some 29) rfl rfl Tryd.func16 (by kernel_rfl) rfl #[.string a2, .int .i64 (wrap64 (13 + t237))] rfl (by (try simp only [List.map_toArray, List.map_cons, List.map_nil]); first | done | rfl | (simp only [List.length_drop, List.length_take]; rfl)) ?_; (with_reducible refine (turnstilelaw6_digits.calls k a2 (wrap64 (13 + t237)) t238 _ A9.out).mono ?_); rintro e w67 ⟨rfl, hb⟩; refine ⟨_, rfl, ?_⟩; have n0_ := Aside0.mk (below_step (by repeat (first | (with_reducible first | exact HB.out | apply below_alloc | apply pw_below_drewN | apply below_drew1) | exact HB.out)) hb); clear HB; have HB := n0_; clear n0_; (try clear hb); (try clear hb2); (try clear hk); (try clear hi)) | ((with_reducible refine gate_callee (f := 12) rfl ?_); refine goesL_ (some 34) rfl rfl Tryd.func12 (by kernel_rfl) rfl #[.int .i64 t235, .string t236, .string t238] rfl (by (try simp only [List.map_toArray, List.map_cons, List.map_nil]); first | done | rfl | (simp only [List.length_drop, List.length_take]; rfl)) ?_; (with_reducible refine (pin_Open.calls k t235 t236 t238 t239 t240 _ A10.out).mono ?_); rintro e w68 ⟨rfl, hb⟩; refine ⟨_, rfl, ?_⟩; have n0_ := Aside0.mk (below_step (by repeat (first | (with_reducible first | exact HB.out | apply below_alloc | apply pw_below_drewN | apply below_drew1) | exact HB.out)) hb); clear HB; have HB := n0_; clear n0_; (try clear hb); (try clear hb2); (try clear hk); (try clear hi); have p63 : 0 ≤ (0 : Int) := (by omega); have q63 : 0 < t236.size := (by have : (0 : Int) < (t236.size : Int) := of_decide_eq_true (by first | (with_reducible assumption) | assumption); omega); have hx63 : ∀ h : 0 < t236.size, ((t236[0]'h).toNat : Int) = bt t236 0 := bt_at t236 0; clear p63; have qi63 : (0 < (t236.size : Int)) = True := eq_true (of_decide_eq_true (by first | (with_reducible assumption) | assumption)); replace q63 := eq_true q63))
              go_ret
              exact ⟨by first | rfl | (simp [errW_none, errW_some] <;> rfl) | (simp [*, errW_none, errW_some] <;> rfl), by repeat (first | (with_reducible first | exact HB.out | apply below_alloc | apply pw_below_drewN | apply below_drew1) | exact HB.out)⟩
            · rw [if_neg c62] at H
              exact absurd H (by simp)
          · rw [if_neg c61] at H
            have c61b0 : (t240 == 60) = false := beq_eq_false_iff_ne.mpr c61
            have c61b1 : (t240 != 60) = true := bne_iff_ne.mpr c61
            obtain rfl := Option.some.inj H
            go_enter Tryd.func4, Tryd.ntmps4
            go_wp2_with (first | ((with_reducible refine gate_callee (f := 9) rfl ?_); refine goesL_ (some 20) rfl rfl Tryd.func9 (by kernel_rfl) rfl #[] rfl (by (try simp only [List.map_toArray, List.map_cons, List.map_nil]); first | done | rfl | (simp only [List.length_drop, List.length_take]; rfl)) ?_; (with_reducible refine (turnstilelaw6_known.calls k  true _ A5.out).mono ?_); rintro e w69 ⟨rfl, hb⟩; refine ⟨_, rfl, ?_⟩; have n0_ := Aside0.mk (below_step (by repeat (first | (with_reducible first | exact HB.out | apply below_alloc | apply pw_below_drewN | apply below_drew1) | exact HB.out)) hb); clear HB; have HB := n0_; clear n0_; (try clear hb); (try clear hb2); (try clear hk); (try clear hi)) | ((with_reducible refine gate_callee (f := 14) rfl ?_); refine goesL_ (some 22) rfl rfl Tryd.func14 (by kernel_rfl) rfl #[.int .i64 a0] rfl (by (try simp only [List.map_toArray, List.map_cons, List.map_nil]); first | done | rfl | (simp only [List.length_drop, List.length_take]; rfl)) ?_; (with_reducible refine (turnstilelaw6_which.calls a0 t235 _ A6.out).mono ?_); rintro e w70 ⟨rfl, hb⟩; refine ⟨_, rfl, ?_⟩; have n0_ := Aside0.mk (below_step (by repeat (first | (with_reducible first | exact HB.out | apply below_alloc | apply pw_below_drewN | apply below_drew1) | exact HB.out)) hb); clear HB; have HB := n0_; clear n0_; (try clear hb); (try clear hb2); (try clear hk); (try clear hi)) | ((with_reducible refine gate_callee (f := 15) rfl ?_); refine goesL_ (some 24) rfl rfl Tryd.func15 (by kernel_rfl) rfl #[.string a1, .int .i64 8] rfl (by (try simp only [List.map_toArray, List.map_cons, List.map_nil]); first | done | rfl | (simp only [List.length_drop, List.length_take]; rfl)) ?_; (with_reducible refine (turnstilelaw6_fit.calls k a1 8 t236 _ A7.out).mono ?_); rintro e w71 ⟨rfl, hb⟩; refine ⟨_, rfl, ?_⟩; have n0_ := Aside0.mk (below_step (by repeat (first | (with_reducible first | exact HB.out | apply below_alloc | apply pw_below_drewN | apply below_drew1) | exact HB.out)) hb); clear HB; have HB := n0_; clear n0_; (try clear hb); (try clear hb2); (try clear hk); (try clear hi)) | ((with_reducible refine gate_callee (f := 17) rfl ?_); refine goesL_ (some 27) rfl rfl Tryd.func17 (by kernel_rfl) rfl #[.int .i64 a3, .int .i64 7] rfl (by (try simp only [List.map_toArray, List.map_cons, List.map_nil]); first | done | rfl | (simp only [List.length_drop, List.length_take]; rfl)) ?_; (with_reducible refine (turnstilelaw6_pick.calls a3 7 t237 _ A8.out).mono ?_); rintro e w' ⟨rfl, ⟨nd, rfl⟩⟩; refine ⟨_, rfl, ?_⟩) | ((with_reducible refine gate_callee (f := 16) rfl ?_); refine goesL_ (some 29) rfl rfl Tryd.func16 (by kernel_rfl) rfl #[.string a2, .int .i64 (wrap64 (13 + t237))] rfl (by (try simp only [List.map_toArray, List.map_cons, List.map_nil]); first | done | rfl | (simp only [List.length_drop, List.length_take]; rfl)) ?_; (with_reducible refine (turnstilelaw6_digits.calls k a2 (wrap64 (13 + t237)) t238 _ A9.out).mono ?_); rintro e w72 ⟨rfl, hb⟩; refine ⟨_, rfl, ?_⟩; have n0_ := Aside0.mk (below_step (by repeat (first | (with_reducible first | exact HB.out | apply below_alloc | apply pw_below_drewN | apply below_drew1) | exact HB.out)) hb); clear HB; have HB := n0_; clear n0_; (try clear hb); (try clear hb2); (try clear hk); (try clear hi)) | ((with_reducible refine gate_callee (f := 12) rfl ?_); refine goesL_ (some 34) rfl rfl Tryd.func12 (by kernel_rfl) rfl #[.int .i64 t235, .string t236, .string t238] rfl (by (try simp only [List.map_toArray, List.map_cons, List.map_nil]); first | done | rfl | (simp only [List.length_drop, List.length_take]; rfl)) ?_; (with_reducible refine (pin_Open.calls k t235 t236 t238 t239 t240 _ A10.out).mono ?_); rintro e w73 ⟨rfl, hb⟩; refine ⟨_, rfl, ?_⟩; have n0_ := Aside0.mk (below_step (by repeat (first | (with_reducible first | exact HB.out | apply below_alloc | apply pw_below_drewN | apply below_drew1) | exact HB.out)) hb); clear HB; have HB := n0_; clear n0_; (try clear hb); (try clear hb2); (try clear hk); (try clear hi)))
            go_ret
            exact ⟨by first | rfl | (simp [errW_none, errW_some] <;> rfl) | (simp [*, errW_none, errW_some] <;> rfl), by repeat (first | (with_reducible first | exact HB.out | apply below_alloc | apply pw_below_drewN | apply below_drew1) | exact HB.out)⟩
      · rw [if_neg c52] at H
        have c52b0 : (t239.toList == ([] : List UInt8)) = false := beq_eq_false_iff_ne.mpr c52
        have c52b1 : (t239.toList != ([] : List UInt8)) = true := bne_iff_ne.mpr c52
        obtain rfl := Option.some.inj H
        go_enter Tryd.func4, Tryd.ntmps4
        go_wp2_with (first | ((with_reducible refine gate_callee (f := 9) rfl ?_); refine goesL_ (some 20) rfl rfl Tryd.func9 (by kernel_rfl) rfl #[] rfl (by (try simp only [List.map_toArray, List.map_cons, List.map_nil]); first | done | rfl | (simp only [List.length_drop, List.length_take]; rfl)) ?_; (with_reducible refine (turnstilelaw6_known.calls k  true _ A5.out).mono ?_); rintro e w74 ⟨rfl, hb⟩; refine ⟨_, rfl, ?_⟩; have n0_ := Aside0.mk (below_step (by repeat (first | (with_reducible first | exact HB.out | apply below_alloc | apply pw_below_drewN | apply below_drew1) | exact HB.out)) hb); clear HB; have HB := n0_; clear n0_; (try clear hb); (try clear hb2); (try clear hk); (try clear hi)) | ((with_reducible refine gate_callee (f := 14) rfl ?_); refine goesL_ (some 22) rfl rfl Tryd.func14 (by kernel_rfl) rfl #[.int .i64 a0] rfl (by (try simp only [List.map_toArray, List.map_cons, List.map_nil]); first | done | rfl | (simp only [List.length_drop, List.length_take]; rfl)) ?_; (with_reducible refine (turnstilelaw6_which.calls a0 t235 _ A6.out).mono ?_); rintro e w75 ⟨rfl, hb⟩; refine ⟨_, rfl, ?_⟩; have n0_ := Aside0.mk (below_step (by repeat (first | (with_reducible first | exact HB.out | apply below_alloc | apply pw_below_drewN | apply below_drew1) | exact HB.out)) hb); clear HB; have HB := n0_; clear n0_; (try clear hb); (try clear hb2); (try clear hk); (try clear hi)) | ((with_reducible refine gate_callee (f := 15) rfl ?_); refine goesL_ (some 24) rfl rfl Tryd.func15 (by kernel_rfl) rfl #[.string a1, .int .i64 8] rfl (by (try simp only [List.map_toArray, List.map_cons, List.map_nil]); first | done | rfl | (simp only [List.length_drop, List.length_take]; rfl)) ?_; (with_reducible refine (turnstilelaw6_fit.calls k a1 8 t236 _ A7.out).mono ?_); rintro e w76 ⟨rfl, hb⟩; refine ⟨_, rfl, ?_⟩; have n0_ := Aside0.mk (below_step (by repeat (first | (with_reducible first | exact HB.out | apply below_alloc | apply pw_below_drewN | apply below_drew1) | exact HB.out)) hb); clear HB; have HB := n0_; clear n0_; (try clear hb); (try clear hb2); (try clear hk); (try clear hi)) | ((with_reducible refine gate_callee (f := 17) rfl ?_); refine goesL_ (some 27) rfl rfl Tryd.func17 (by kernel_rfl) rfl #[.int .i64 a3, .int .i64 7] rfl (by (try simp only [List.map_toArray, List.map_cons, List.map_nil]); first | done | rfl | (simp only [List.length_drop, List.length_take]; rfl)) ?_; (with_reducible refine (turnstilelaw6_pick.calls a3 7 t237 _ A8.out).mono ?_); rintro e w' ⟨rfl, ⟨nd, rfl⟩⟩; refine ⟨_, rfl, ?_⟩) | ((with_reducible refine gate_callee (f := 16) rfl ?_); refine goesL_ (some 29) rfl rfl Tryd.func16 (by kernel_rfl) rfl #[.string a2, .int .i64 (wrap64 (13 + t237))] rfl (by (try simp only [List.map_toArray, List.map_cons, List.map_nil]); first | done | rfl | (simp only [List.length_drop, List.length_take]; rfl)) ?_; (with_reducible refine (turnstilelaw6_digits.calls k a2 (wrap64 (13 + t237)) t238 _ A9.out).mono ?_); rintro e w77 ⟨rfl, hb⟩; refine ⟨_, rfl, ?_⟩; have n0_ := Aside0.mk (below_step (by repeat (first | (with_reducible first | exact HB.out | apply below_alloc | apply pw_below_drewN | apply below_drew1) | exact HB.out)) hb); clear HB; have HB := n0_; clear n0_; (try clear hb); (try clear hb2); (try clear hk); (try clear hi)) | ((with_reducible refine gate_callee (f := 12) rfl ?_); refine goesL_ (some 34) rfl rfl Tryd.func12 (by kernel_rfl) rfl #[.int .i64 t235, .string t236, .string t238] rfl (by (try simp only [List.map_toArray, List.map_cons, List.map_nil]); first | done | rfl | (simp only [List.length_drop, List.length_take]; rfl)) ?_; (with_reducible refine (pin_Open.calls k t235 t236 t238 t239 t240 _ A10.out).mono ?_); rintro e w78 ⟨rfl, hb⟩; refine ⟨_, rfl, ?_⟩; have n0_ := Aside0.mk (below_step (by repeat (first | (with_reducible first | exact HB.out | apply below_alloc | apply pw_below_drewN | apply below_drew1) | exact HB.out)) hb); clear HB; have HB := n0_; clear n0_; (try clear hb); (try clear hb2); (try clear hk); (try clear hi)))
        go_ret
        exact ⟨by first | rfl | (simp [errW_none, errW_some] <;> rfl) | (simp [*, errW_none, errW_some] <;> rfl), by repeat (first | (with_reducible first | exact HB.out | apply below_alloc | apply pw_below_drewN | apply below_drew1) | exact HB.out)⟩
    · replace c51 := Bool.eq_false_iff.mpr c51
      subst c51
      have H1 : (some false) = some r := by rw [if_neg (show ¬ (false = true) by decide)] at H; exact H
      clear H
      have H := H1
      clear H1
      obtain rfl := Option.some.inj H
      go_enter Tryd.func4, Tryd.ntmps4
      go_wp2_with (first | ((with_reducible refine gate_callee (f := 9) rfl ?_); refine goesL_ (some 20) rfl rfl Tryd.func9 (by kernel_rfl) rfl #[] rfl (by (try simp only [List.map_toArray, List.map_cons, List.map_nil]); first | done | rfl | (simp only [List.length_drop, List.length_take]; rfl)) ?_; (with_reducible refine (turnstilelaw6_known.calls k  false _ A5.out).mono ?_); rintro e w79 ⟨rfl, hb⟩; refine ⟨_, rfl, ?_⟩; have n0_ := Aside0.mk (below_step (by repeat (first | (with_reducible first | exact HB.out | apply below_alloc | apply pw_below_drewN | apply below_drew1) | exact HB.out)) hb); clear HB; have HB := n0_; clear n0_; (try clear hb); (try clear hb2); (try clear hk); (try clear hi)) | ((with_reducible refine gate_callee (f := 14) rfl ?_); refine goesL_ (some 22) rfl rfl Tryd.func14 (by kernel_rfl) rfl #[.int .i64 a0] rfl (by (try simp only [List.map_toArray, List.map_cons, List.map_nil]); first | done | rfl | (simp only [List.length_drop, List.length_take]; rfl)) ?_; (with_reducible refine (turnstilelaw6_which.calls a0 t235 _ A6.out).mono ?_); rintro e w80 ⟨rfl, hb⟩; refine ⟨_, rfl, ?_⟩; have n0_ := Aside0.mk (below_step (by repeat (first | (with_reducible first | exact HB.out | apply below_alloc | apply pw_below_drewN | apply below_drew1) | exact HB.out)) hb); clear HB; have HB := n0_; clear n0_; (try clear hb); (try clear hb2); (try clear hk); (try clear hi)) | ((with_reducible refine gate_callee (f := 15) rfl ?_); refine goesL_ (some 24) rfl rfl Tryd.func15 (by kernel_rfl) rfl #[.string a1, .int .i64 8] rfl (by (try simp only [List.map_toArray, List.map_cons, List.map_nil]); first | done | rfl | (simp only [List.length_drop, List.length_take]; rfl)) ?_; (with_reducible refine (turnstilelaw6_fit.calls k a1 8 t236 _ A7.out).mono ?_); rintro e w81 ⟨rfl, hb⟩; refine ⟨_, rfl, ?_⟩; have n0_ := Aside0.mk (below_step (by repeat (first | (with_reducible first | exact HB.out | apply below_alloc | apply pw_below_drewN | apply below_drew1) | exact HB.out)) hb); clear HB; have HB := n0_; clear n0_; (try clear hb); (try clear hb2); (try clear hk); (try clear hi)) | ((with_reducible refine gate_callee (f := 17) rfl ?_); refine goesL_ (some 27) rfl rfl Tryd.func17 (by kernel_rfl) rfl #[.int .i64 a3, .int .i64 7] rfl (by (try simp only [List.map_toArray, List.map_cons, List.map_nil]); first | done | rfl | (simp only [List.length_drop, List.length_take]; rfl)) ?_; (with_reducible refine (turnstilelaw6_pick.calls a3 7 t237 _ A8.out).mono ?_); rintro e w' ⟨rfl, ⟨nd, rfl⟩⟩; refine ⟨_, rfl, ?_⟩) | ((with_reducible refine gate_callee (f := 16) rfl ?_); refine goesL_ (some 29) rfl rfl Tryd.func16 (by kernel_rfl) rfl #[.string a2, .int .i64 (wrap64 (13 + t237))] rfl (by (try simp only [List.map_toArray, List.map_cons, List.map_nil]); first | done | rfl | (simp only [List.length_drop, List.length_take]; rfl)) ?_; (with_reducible refine (turnstilelaw6_digits.calls k a2 (wrap64 (13 + t237)) t238 _ A9.out).mono ?_); rintro e w82 ⟨rfl, hb⟩; refine ⟨_, rfl, ?_⟩; have n0_ := Aside0.mk (below_step (by repeat (first | (with_reducible first | exact HB.out | apply below_alloc | apply pw_below_drewN | apply below_drew1) | exact HB.out)) hb); clear HB; have HB := n0_; clear n0_; (try clear hb); (try clear hb2); (try clear hk); (try clear hi)) | ((with_reducible refine gate_callee (f := 12) rfl ?_); refine goesL_ (some 34) rfl rfl Tryd.func12 (by kernel_rfl) rfl #[.int .i64 t235, .string t236, .string t238] rfl (by (try simp only [List.map_toArray, List.map_cons, List.map_nil]); first | done | rfl | (simp only [List.length_drop, List.length_take]; rfl)) ?_; (with_reducible refine (pin_Open.calls k t235 t236 t238 t239 t240 _ A10.out).mono ?_); rintro e w83 ⟨rfl, hb⟩; refine ⟨_, rfl, ?_⟩; have n0_ := Aside0.mk (below_step (by repeat (first | (with_reducible first | exact HB.out | apply below_alloc | apply pw_below_drewN | apply below_drew1) | exact HB.out)) hb); clear HB; have HB := n0_; clear n0_; (try clear hb); (try clear hb2); (try clear hk); (try clear hi)))
      go_ret
      exact ⟨by first | rfl | (simp [errW_none, errW_some] <;> rfl) | (simp [*, errW_none, errW_some] <;> rfl), by repeat (first | (with_reducible first | exact HB.out | apply below_alloc | apply pw_below_drewN | apply below_drew1) | exact HB.out)⟩

/-- THE ONE PURE STATEMENT of turnstilelaw6_PinRight: yours. -/
def turnstilelaw6_PinRight.Pure : Prop := ∀ (a0 : Int) (a1 : ByteArray) (a2 : ByteArray) (a3 : Int), (Lit.int .i64 a0).wf = true → a1.size ≤ 140737488351232 → a2.size ≤ 140737488351232 → (Lit.int .i64 a3).wf = true → ∃ k, turnstilelaw6_PinRight.f k a0 a1 a2 a3 = some true
theorem turnstilelaw6_PinRight.walk (P : turnstilelaw6_PinRight.Pure) (a0 : Int) (a1 : ByteArray) (a2 : ByteArray) (a3 : Int) (w : World) (w0 : (Lit.int .i64 a0).wf = true) (w1 : a1.size ≤ 140737488351232) (w2 : a2.size ≤ 140737488351232) (w3 : (Lit.int .i64 a3).wf = true) :
    Calls Tryd.prog 4 #[.int .i64 a0, .string a1, .string a2, .int .i64 a3] w fun e w' => e = .returned (.bool true) ∧ Below w.heap.size w w' := by
  obtain ⟨k, h⟩ := P a0 a1 a2 a3 w0 w1 w2 w3
  refine (turnstilelaw6_PinRight.calls k a0 a1 a2 a3 true w h).mono ?_
  rintro e w' ⟨rfl, hd⟩
  exact ⟨rfl, hd⟩

end Go.Proofs.YtkjjdodnkcmeiaaDoor.PX
