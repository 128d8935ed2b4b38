-- Written by px.py of this session, which runs the kit's print with given contracts. Not trusted: Lean checks it.
import Derived.Test.YtkjjdodnkcmeiaaGreatDoorPX0
import Derived.Test.YtkjjdodnkcmeiaaGreatDoorPX11
import Derived.Test.YtkjjdodnkcmeiaaGreatDoorOne
namespace Go.Proofs.YtkjjdodnkcmeiaaGreatDoor.PX
open Go.RowKit Go.Proofs.YtkjjdodnkcmeiaaGreatDoorW.PrintWords Go.Proofs.YtkjjdodnkcmeiaaGreatDoorW.PrintLast Go.Proofs.YtkjjdodnkcmeiaaGreatDoorW.PrintMore
attribute [local go_sem] max2_int min2_int max_two min_two max_three min_three max_four min_four   -- for this text's walks alone
set_option linter.unusedVariables false
set_option linter.unusedSimpArgs false

/-! ### turnstileref3_block: function 41 -/
def turnstileref3_block.j0 : Nat → ByteArray → Bool → ByteArray → ByteArray → ByteArray → Option (ByteArray)
  | 0, _, _, _, _, _ => none
  | k + 1, x1, x2, x7, x8, x9 => if x2 = true then ((turnstileref3_one.f x9 x1 true).bind fun t298 => ((turnstileref3_one.f x8 t298 false).bind fun t299 => ((turnstileref3_one.f x7 t299 true).bind fun t300 => (some t300)))) else ((turnstileref3_one.f x7 x1 false).bind fun t301 => ((turnstileref3_one.f x8 t301 true).bind fun t302 => ((turnstileref3_one.f x9 t302 false).bind fun t303 => (some t303))))
def turnstileref3_block.f (k : Nat) (a0 : ByteArray) (a1 : ByteArray) (a2 : Bool) : Option (ByteArray) := if (a0.size : Int) = 8 then ((turnstileref3_one.f a0 a1 a2).bind fun t297 => (some t297)) else (if 0 ≤ 8 then (if 8 ≤ (a0.size : Int) then (if 8 ≤ 16 then (if 16 ≤ (a0.size : Int) then (if 0 ≤ (wrap64 ((a0.size : Int) - 8)) then (if (wrap64 ((a0.size : Int) - 8)) ≤ (a0.size : Int) then (if (a0.size : Int) = 16 then (turnstileref3_block.j0 k a1 a2 (a0.extract 0 8) (a0.extract 8 16) (a0.extract 0 8)) else (turnstileref3_block.j0 k a1 a2 (a0.extract 0 8) (a0.extract 8 16) (a0.extract ((wrap64 ((a0.size : Int) - 8)) : Int).toNat a0.size))) else (none)) else (none)) else (none)) else (none)) else (none)) else (none))
set_option maxHeartbeats 8000000 in
set_option maxRecDepth 100000 in
theorem turnstileref3_block.calls (k : Nat) (a0 : ByteArray) (a1 : ByteArray) (a2 : Bool) (r : ByteArray) (w : World) (h : turnstileref3_block.f k a0 a1 a2 = some r) :
    Calls Tryz.prog 41 #[.string a0, .string a1, .bool a2] w fun e w' => e = .returned (.string r) ∧ Below w.heap.size w w' := by
  have HB := Aside0.mk (Below.refl w.heap.size w)
  have H : (if (a0.size : Int) = 8 then ((turnstileref3_one.f a0 a1 a2).bind fun t297 => (some t297)) else (if 0 ≤ 8 then (if 8 ≤ (a0.size : Int) then (if 8 ≤ 16 then (if 16 ≤ (a0.size : Int) then (if 0 ≤ (wrap64 ((a0.size : Int) - 8)) then (if (wrap64 ((a0.size : Int) - 8)) ≤ (a0.size : Int) then (if (a0.size : Int) = 16 then (turnstileref3_block.j0 k a1 a2 (a0.extract 0 8) (a0.extract 8 16) (a0.extract 0 8)) else (turnstileref3_block.j0 k a1 a2 (a0.extract 0 8) (a0.extract 8 16) (a0.extract ((wrap64 ((a0.size : Int) - 8)) : Int).toNat a0.size))) else (none)) else (none)) else (none)) else (none)) else (none)) else (none))) = some r := h
  clear h
  by_cases c4 : (a0.size : Int) = 8
  · rw [if_pos c4] at H
    have c4b0 : ((a0.size : Int) == 8) = true := beq_iff_eq.mpr c4
    have c4b1 : ((a0.size : Int) != 8) = false := bne_eq_false_iff_eq.mpr c4
    clear c4
    replace H := Option.bind_eq_some_iff.mp H
    obtain ⟨t297, A50, H⟩ := H
    replace H : (some t297) = some r := H
    have A5 := Aside0.mk A50
    clear A50
    obtain rfl := Option.some.inj H
    go_enter Tryz.func41, Tryz.ntmps41
    go_wp2_with (first | ((with_reducible refine gate_callee (f := 67) rfl ?_); refine goesL_ (some 16) rfl rfl Tryz.func67 (by kernel_rfl) rfl #[.string a0, .string a1, .bool a2] rfl (by (try simp only [List.map_toArray, List.map_cons, List.map_nil]); first | done | rfl | (simp only [List.length_drop, List.length_take]; rfl)) ?_; (with_reducible refine (turnstileref3_one.calls a0 a1 a2 t297 _ A5.out).mono ?_); rintro e w6 ⟨rfl, hb⟩; refine ⟨_, rfl, ?_⟩; have n0_ := Aside0.mk (below_step (by repeat (first | (with_reducible first | exact HB.out | apply below_alloc | apply pw_below_drewN | apply below_drew1) | exact HB.out)) hb); clear HB; have HB := n0_; clear n0_; (try clear hb); (try clear hb2); (try clear hk); (try clear hi)))
    go_ret
    exact ⟨by first | rfl | (simp [errW_none, errW_some] <;> rfl) | (simp [*, errW_none, errW_some] <;> rfl), by repeat (first | (with_reducible first | exact HB.out | apply below_alloc | apply pw_below_drewN | apply below_drew1) | exact HB.out)⟩
  · rw [if_neg c4] at H
    have c4b0 : ((a0.size : Int) == 8) = false := beq_eq_false_iff_ne.mpr c4
    have c4b1 : ((a0.size : Int) != 8) = true := bne_iff_ne.mpr c4
    by_cases c7 : 0 ≤ 8
    · rw [if_pos c7] at H
      have c7b0 := eq_true c7
      have c7b1 : decide (0 ≤ 8) = true := decide_eq_true c7
      clear c7
      by_cases c8 : 8 ≤ (a0.size : Int)
      · rw [if_pos c8] at H
        have c8b0 := eq_true c8
        have c8b1 : decide (8 ≤ (a0.size : Int)) = true := decide_eq_true c8
        clear c8
        by_cases c9 : 8 ≤ 16
        · rw [if_pos c9] at H
          have c9b0 := eq_true c9
          have c9b1 : decide (8 ≤ 16) = true := decide_eq_true c9
          clear c9
          by_cases c10 : 16 ≤ (a0.size : Int)
          · rw [if_pos c10] at H
            have c10b0 := eq_true c10
            have c10b1 : decide (16 ≤ (a0.size : Int)) = true := decide_eq_true c10
            clear c10
            obtain ⟨ji11, hji11⟩ : ∃ j_ : Int, (wrap64 ((a0.size : Int) - 8)) = j_ := ⟨_, rfl⟩
            replace H : (if 0 ≤ (ji11) then (if (ji11) ≤ (a0.size : Int) then (if (a0.size : Int) = 16 then (turnstileref3_block.j0 k a1 a2 (a0.extract 0 8) (a0.extract 8 16) (a0.extract 0 8)) else (turnstileref3_block.j0 k a1 a2 (a0.extract 0 8) (a0.extract 8 16) (a0.extract ((ji11) : Int).toNat a0.size))) else (none)) else (none)) = some r := by first | (rw [hji11] at H; exact H) | (simp only [hji11] at H ⊢; exact H)
            have hji11w : (IntKind.i64.wrap ((a0.size : Int) - 8)) = ji11 := (i64_w _).trans hji11
            by_cases c12 : 0 ≤ (ji11)
            · rw [if_pos c12] at H
              have c12b0 := eq_true c12
              have c12b1 : decide (0 ≤ (ji11)) = true := decide_eq_true c12
              clear c12
              by_cases c13 : (ji11) ≤ (a0.size : Int)
              · rw [if_pos c13] at H
                have c13b0 := eq_true c13
                have c13b1 : decide ((ji11) ≤ (a0.size : Int)) = true := decide_eq_true c13
                clear c13
                have HC14 := Aside0.mk H
                clear H
                go_enter Tryz.func41, Tryz.ntmps41
                go_upto_if 28 with (fail)
                go_cut [9] (fun v9 wc => ∃ (kq : Nat) (x9_13 : ByteArray), v9 = .string x9_13 ∧ Aside0 (turnstileref3_block.j0 kq a1 a2 (a0.extract 0 8) (a0.extract 8 16) x9_13 = some r) ∧ Aside0 (kq ≤ k) ∧ Aside0 (Below w.heap.size w wc))
                case first =>
                  have H := HC14.out
                  clear HC14
                  by_cases c15 : (a0.size : Int) = 16
                  · rw [if_pos c15] at H
                    have c15b0 : ((a0.size : Int) == 16) = true := beq_iff_eq.mpr c15
                    have c15b1 : ((a0.size : Int) != 16) = false := bne_eq_false_iff_eq.mpr c15
                    clear c15
                    (first | rw [c15b0] | (simp only [i64_w, i32_w]; rw [c15b0]) | skip)
                    have H' := Aside0.mk H
                    clear H
                    go_wp2
                    go_meet
                    case rel => exact ⟨_, (a0.extract 0 8), (by first | rfl | (simp; done) | (simp [*]; done)), H', ⟨by first | omega | exact Nat.le_refl _⟩, ⟨by repeat (first | (with_reducible first | exact HB.out | apply below_alloc | apply pw_below_drewN | apply below_drew1) | exact HB.out)⟩⟩
                  · rw [if_neg c15] at H
                    have c15b0 : ((a0.size : Int) == 16) = false := beq_eq_false_iff_ne.mpr c15
                    have c15b1 : ((a0.size : Int) != 16) = true := bne_iff_ne.mpr c15
                    (first | rw [c15b0] | (simp only [i64_w, i32_w]; rw [c15b0]) | skip)
                    have H' := Aside0.mk H
                    clear H
                    go_wp2
                    go_meet
                    case rel => exact ⟨_, (a0.extract ((ji11) : Int).toNat a0.size), (by first | rfl | (simp; done) | (simp only [← hji11] <;> (first | rfl | simp)) | (simp [*]; done)), H', ⟨by first | omega | exact Nat.le_refl _⟩, ⟨by repeat (first | (with_reducible first | exact HB.out | apply below_alloc | apply pw_below_drewN | apply below_drew1) | exact HB.out)⟩⟩
                case rest =>
                  clear HC14
                  try clear c1
                  try clear p2
                  try clear c4
                  try clear c4b0
                  try clear c4b1
                  try clear c6
                  try clear p6
                  try clear c7
                  try clear c7b0
                  try clear c7b1
                  try clear c8
                  try clear c8b0
                  try clear c8b1
                  try clear c9
                  try clear c9b0
                  try clear c9b1
                  try clear c10
                  try clear c10b0
                  try clear c10b1
                  try clear c12
                  try clear c12b0
                  try clear c12b1
                  try clear c13
                  try clear c13b0
                  try clear c13b1
                  try clear c15
                  try clear c15b0
                  try clear c15b1
                  obtain ⟨kq, x9_13, rfl, HA, HJ13, HB⟩ := hcut
                  cases kq with
                  | zero => exact absurd HA.out (by simp [turnstileref3_block.j0])
                  | succ kj13 =>
                    have H := HA.out
                    clear HA
                    simp only [turnstileref3_block.j0] at H
                    by_cases c16 : a2 = true
                    · subst c16
                      have H1 : ((turnstileref3_one.f x9_13 a1 true).bind fun t298 => ((turnstileref3_one.f (a0.extract 8 16) t298 false).bind fun t299 => ((turnstileref3_one.f (a0.extract 0 8) t299 true).bind fun t300 => (some t300)))) = some r := by rw [if_pos rfl] at H; exact H
                      clear H
                      have H := H1
                      clear H1
                      replace H := Option.bind_eq_some_iff.mp H
                      obtain ⟨t298, A170, H⟩ := H
                      replace H : ((turnstileref3_one.f (a0.extract 8 16) t298 false).bind fun t299 => ((turnstileref3_one.f (a0.extract 0 8) t299 true).bind fun t300 => (some t300))) = some r := H
                      have A17 := Aside0.mk A170
                      clear A170
                      replace H := Option.bind_eq_some_iff.mp H
                      obtain ⟨t299, A180, H⟩ := H
                      replace H : ((turnstileref3_one.f (a0.extract 0 8) t299 true).bind fun t300 => (some t300)) = some r := H
                      have A18 := Aside0.mk A180
                      clear A180
                      replace H := Option.bind_eq_some_iff.mp H
                      obtain ⟨t300, A190, H⟩ := H
                      replace H : (some t300) = some r := H
                      have A19 := Aside0.mk A190
                      clear A190
                      obtain rfl := Option.some.inj H
                      go_wp2_with (first | ((with_reducible refine gate_callee (f := 67) rfl ?_); refine goesL_ (some 33) rfl rfl Tryz.func67 (by kernel_rfl) rfl #[.string x9_13, .string a1, .bool true] rfl (by (try simp only [List.map_toArray, List.map_cons, List.map_nil]); first | done | rfl | (simp only [List.length_drop, List.length_take]; rfl)) ?_; (with_reducible refine (turnstileref3_one.calls x9_13 a1 true t298 _ A17.out).mono ?_); rintro e w20 ⟨rfl, hb⟩; refine ⟨_, rfl, ?_⟩; have n0_ := Aside0.mk (below_step (by repeat (first | (with_reducible first | exact HB.out | apply below_alloc | apply pw_below_drewN | apply below_drew1) | exact HB.out)) hb); clear HB; have HB := n0_; clear n0_; (try clear hb); (try clear hb2); (try clear hk); (try clear hi)) | ((with_reducible refine gate_callee (f := 67) rfl ?_); refine goesL_ (some 36) rfl rfl Tryz.func67 (by kernel_rfl) rfl #[.string (a0.extract 8 16), .string t298, .bool false] rfl (by (try simp only [List.map_toArray, List.map_cons, List.map_nil]); first | done | rfl | (simp only [List.length_drop, List.length_take]; rfl)) ?_; (with_reducible refine (turnstileref3_one.calls (a0.extract 8 16) t298 false t299 _ A18.out).mono ?_); rintro e w21 ⟨rfl, hb⟩; refine ⟨_, rfl, ?_⟩; have n0_ := Aside0.mk (below_step (by repeat (first | (with_reducible first | exact HB.out | apply below_alloc | apply pw_below_drewN | apply below_drew1) | exact HB.out)) hb); clear HB; have HB := n0_; clear n0_; (try clear hb); (try clear hb2); (try clear hk); (try clear hi)) | ((with_reducible refine gate_callee (f := 67) rfl ?_); refine goesL_ (some 39) rfl rfl Tryz.func67 (by kernel_rfl) rfl #[.string (a0.extract 0 8), .string t299, .bool true] rfl (by (try simp only [List.map_toArray, List.map_cons, List.map_nil]); first | done | rfl | (simp only [List.length_drop, List.length_take]; rfl)) ?_; (with_reducible refine (turnstileref3_one.calls (a0.extract 0 8) t299 true t300 _ A19.out).mono ?_); rintro e w22 ⟨rfl, hb⟩; refine ⟨_, rfl, ?_⟩; have n0_ := Aside0.mk (below_step (by repeat (first | (with_reducible first | exact HB.out | apply below_alloc | apply pw_below_drewN | apply below_drew1) | exact HB.out)) hb); clear HB; have HB := n0_; clear n0_; (try clear hb); (try clear hb2); (try clear hk); (try clear hi)))
                      go_ret
                      exact ⟨by first | rfl | (simp [errW_none, errW_some] <;> rfl) | (simp only [← hji11]; first | rfl | (simp [errW_none, errW_some] <;> rfl)) | (simp [*, errW_none, errW_some] <;> rfl), by repeat (first | (with_reducible first | exact HB.out | apply below_alloc | apply pw_below_drewN | apply below_drew1) | exact HB.out)⟩
                    · replace c16 := Bool.eq_false_iff.mpr c16
                      subst c16
                      have H1 : ((turnstileref3_one.f (a0.extract 0 8) a1 false).bind fun t301 => ((turnstileref3_one.f (a0.extract 8 16) t301 true).bind fun t302 => ((turnstileref3_one.f x9_13 t302 false).bind fun t303 => (some t303)))) = some r := by rw [if_neg (show ¬ (false = true) by decide)] at H; exact H
                      clear H
                      have H := H1
                      clear H1
                      replace H := Option.bind_eq_some_iff.mp H
                      obtain ⟨t301, A230, H⟩ := H
                      replace H : ((turnstileref3_one.f (a0.extract 8 16) t301 true).bind fun t302 => ((turnstileref3_one.f x9_13 t302 false).bind fun t303 => (some t303))) = some r := H
                      have A23 := Aside0.mk A230
                      clear A230
                      replace H := Option.bind_eq_some_iff.mp H
                      obtain ⟨t302, A240, H⟩ := H
                      replace H : ((turnstileref3_one.f x9_13 t302 false).bind fun t303 => (some t303)) = some r := H
                      have A24 := Aside0.mk A240
                      clear A240
                      replace H := Option.bind_eq_some_iff.mp H
                      obtain ⟨t303, A250, H⟩ := H
                      replace H : (some t303) = some r := H
                      have A25 := Aside0.mk A250
                      clear A250
                      obtain rfl := Option.some.inj H
                      go_wp2_with (first | ((with_reducible refine gate_callee (f := 67) rfl ?_); refine goesL_ (some 42) rfl rfl Tryz.func67 (by kernel_rfl) rfl #[.string (a0.extract 0 8), .string a1, .bool false] rfl (by (try simp only [List.map_toArray, List.map_cons, List.map_nil]); first | done | rfl | (simp only [List.length_drop, List.length_take]; rfl)) ?_; (with_reducible refine (turnstileref3_one.calls (a0.extract 0 8) a1 false t301 _ A23.out).mono ?_); rintro e w26 ⟨rfl, hb⟩; refine ⟨_, rfl, ?_⟩; have n0_ := Aside0.mk (below_step (by repeat (first | (with_reducible first | exact HB.out | apply below_alloc | apply pw_below_drewN | apply below_drew1) | exact HB.out)) hb); clear HB; have HB := n0_; clear n0_; (try clear hb); (try clear hb2); (try clear hk); (try clear hi)) | ((with_reducible refine gate_callee (f := 67) rfl ?_); refine goesL_ (some 45) rfl rfl Tryz.func67 (by kernel_rfl) rfl #[.string (a0.extract 8 16), .string t301, .bool true] rfl (by (try simp only [List.map_toArray, List.map_cons, List.map_nil]); first | done | rfl | (simp only [List.length_drop, List.length_take]; rfl)) ?_; (with_reducible refine (turnstileref3_one.calls (a0.extract 8 16) t301 true t302 _ A24.out).mono ?_); rintro e w27 ⟨rfl, hb⟩; refine ⟨_, rfl, ?_⟩; have n0_ := Aside0.mk (below_step (by repeat (first | (with_reducible first | exact HB.out | apply below_alloc | apply pw_below_drewN | apply below_drew1) | exact HB.out)) hb); clear HB; have HB := n0_; clear n0_; (try clear hb); (try clear hb2); (try clear hk); (try clear hi)) | ((with_reducible refine gate_callee (f := 67) rfl ?_); refine goesL_ (some 48) rfl rfl Tryz.func67 (by kernel_rfl) rfl #[.string x9_13, .string t302, .bool false] rfl (by (try simp only [List.map_toArray, List.map_cons, List.map_nil]); first | done | rfl | (simp only [List.length_drop, List.length_take]; rfl)) ?_; (with_reducible refine (turnstileref3_one.calls x9_13 t302 false t303 _ A25.out).mono ?_); rintro e w28 ⟨rfl, hb⟩; refine ⟨_, rfl, ?_⟩; have n0_ := Aside0.mk (below_step (by repeat (first | (with_reducible first | exact HB.out | apply below_alloc | apply pw_below_drewN | apply below_drew1) | exact HB.out)) hb); clear HB; have HB := n0_; clear n0_; (try clear hb); (try clear hb2); (try clear hk); (try clear hi)))
                      go_ret
                      exact ⟨by first | rfl | (simp [errW_none, errW_some] <;> rfl) | (simp only [← hji11]; first | rfl | (simp [errW_none, errW_some] <;> rfl)) | (simp [*, errW_none, errW_some] <;> rfl), by repeat (first | (with_reducible first | exact HB.out | apply below_alloc | apply pw_below_drewN | apply below_drew1) | exact HB.out)⟩
              · rw [if_neg c13] at H
                exact absurd H (by simp)
            · rw [if_neg c12] at H
              exact absurd H (by simp)
          · rw [if_neg c10] at H
            exact absurd H (by simp)
        · rw [if_neg c9] at H
          exact absurd H (by simp)
      · rw [if_neg c8] at H
        exact absurd H (by simp)
    · rw [if_neg c7] at H
      exact absurd H (by simp)

/-! ### turnstileref3_Turn: function 17 -/
def turnstileref3_Turn.l0 : Nat → ByteArray → ByteArray → Bool → ByteArray → Int → Option (ByteArray × Int)
  | 0, _, _, _, _, _ => none
  | k + 1, x0, x1, x2, x8, x9 => if x9 < (x1.size : Int) then (if 0 ≤ x9 then (if x9 ≤ (wrap64 (x9 + 8)) then (if (wrap64 (x9 + 8)) ≤ (x1.size : Int) then ((turnstileref3_block.f k x0 (x1.extract (x9 : Int).toNat ((wrap64 (x9 + 8)) : Int).toNat) x2).bind fun t304 => (if x8.size + t304.size ≤ 9223372036854775807 then (turnstileref3_Turn.l0 k x0 x1 x2 (x8 ++ t304) (wrap64 (x9 + 8))) else (none))) else (none)) else (none)) else (none)) else (some (x8, 0))
def turnstileref3_Turn.f (k : Nat) (a0 : ByteArray) (a1 : ByteArray) (a2 : Bool) : Option (ByteArray × Int) := if ((a1.size : Int) % 8) = 0 then (turnstileref3_Turn.l0 k a0 a1 a2 (⟨#[]⟩ : ByteArray) 0) else (some ((⟨#[]⟩ : ByteArray), 31))
set_option maxHeartbeats 8000000 in
set_option maxRecDepth 100000 in
theorem turnstileref3_Turn.calls (k : Nat) (a0 : ByteArray) (a1 : ByteArray) (a2 : Bool) (r1 : ByteArray) (r2 : Int) (w : World) (h : turnstileref3_Turn.f k a0 a1 a2 = some (r1, r2)) :
    Calls Tryz.prog 17 #[.string a0, .string a1, .bool a2] w fun e w' => e = .returned (.tuple #[.string r1, .int .i64 r2]) ∧ Below w.heap.size w w' := by
  have HB := Aside0.mk (Below.refl w.heap.size w)
  have H : (if ((a1.size : Int) % 8) = 0 then (turnstileref3_Turn.l0 k a0 a1 a2 (⟨#[]⟩ : ByteArray) 0) else (some ((⟨#[]⟩ : ByteArray), 31))) = some (r1, r2) := h
  clear h
  by_cases c4 : ((a1.size : Int) % 8) = 0
  · rw [if_pos c4] at H
    have c4b0 : (((a1.size : Int) % 8) == 0) = true := beq_iff_eq.mpr c4
    have c4b1 : (((a1.size : Int) % 8) != 0) = false := bne_eq_false_iff_eq.mpr c4
    clear c4
    have H' := Aside0.mk H
    clear H
    go_enter Tryz.func17, Tryz.ntmps17
    go_wp2
    go_loopg [8, 9] k (fun kq v8 v9 w' => ∃ (x8_1 : ByteArray) (x9_1 : Int), v8 = .string x8_1 ∧ v9 = .int .i64 x9_1 ∧ Aside0 (turnstileref3_Turn.l0 kq a0 a1 a2 x8_1 x9_1 = some (r1, r2)) ∧ Aside0 (kq ≤ k) ∧ Aside0 (Below w.heap.size w w'))
    case atStart => exact ⟨((⟨#[]⟩ : ByteArray)), (0), (by first | rfl | (simp; done) | (simp [*]; done)), (by first | rfl | (simp; done) | (simp [*]; done)), H', ⟨Nat.le_refl _⟩, ⟨by repeat (first | (with_reducible first | exact HB.out | apply below_alloc | apply pw_below_drewN | apply below_drew1) | exact HB.out)⟩⟩
    case round =>
      clear H'
      try clear c1
      try clear p2
      try clear c4
      try clear c4b0
      try clear c4b1
      obtain ⟨x8_1, x9_1, rfl, rfl, HA, HK1, HB⟩ := hrel
      cases gk with
      | zero => exact absurd HA.out (by simp [turnstileref3_Turn.l0])
      | succ k1 =>
        have H := HA.out
        clear HA
        simp only [turnstileref3_Turn.l0] at H
        by_cases c5 : x9_1 < (a1.size : Int)
        · rw [if_pos c5] at H
          have c5b0 : decide (x9_1 < (a1.size : Int)) = true := decide_eq_true c5
          clear c5
          by_cases c6 : 0 ≤ x9_1
          · rw [if_pos c6] at H
            have c6b0 := eq_true c6
            have c6b1 : decide (0 ≤ x9_1) = true := decide_eq_true c6
            clear c6
            by_cases c7 : x9_1 ≤ (wrap64 (x9_1 + 8))
            · rw [if_pos c7] at H
              have c7b0 := eq_true c7
              have c7b1 : decide (x9_1 ≤ (wrap64 (x9_1 + 8))) = true := decide_eq_true c7
              by_cases c8 : (wrap64 (x9_1 + 8)) ≤ (a1.size : Int)
              · rw [if_pos c8] at H
                have c8b0 := eq_true c8
                have c8b1 : decide ((wrap64 (x9_1 + 8)) ≤ (a1.size : Int)) = true := decide_eq_true c8
                replace H := Option.bind_eq_some_iff.mp H
                obtain ⟨t304, A90, H⟩ := H
                replace H : (if x8_1.size + t304.size ≤ 9223372036854775807 then (turnstileref3_Turn.l0 k1 a0 a1 a2 (x8_1 ++ t304) (wrap64 (x9_1 + 8))) else (none)) = some (r1, r2) := H
                have A9 := Aside0.mk A90
                clear A90
                by_cases c10 : x8_1.size + t304.size ≤ 9223372036854775807
                · rw [if_pos c10] at H
                  have c10b0 := eq_true c10
                  have c10b1 : decide (x8_1.size + t304.size ≤ 9223372036854775807) = true := decide_eq_true c10
                  try have c10b2 : (9223372036854775807 < x8_1.size + t304.size) = False := eq_false (Nat.not_lt.2 c10)
                  have H' := Aside0.mk H
                  clear H
                  go_wp2_with (first | ((with_reducible refine gate_callee (f := 41) rfl ?_); refine goesL_ (some 28) rfl rfl Tryz.func41 (by kernel_rfl) rfl #[.string a0, .string (a1.extract (x9_1 : Int).toNat ((wrap64 (x9_1 + 8)) : Int).toNat), .bool a2] rfl (by (try simp only [List.map_toArray, List.map_cons, List.map_nil]); first | done | rfl | (simp only [List.length_drop, List.length_take]; rfl)) ?_; (with_reducible refine (turnstileref3_block.calls k1 a0 (a1.extract (x9_1 : Int).toNat ((wrap64 (x9_1 + 8)) : Int).toNat) a2 t304 _ A9.out).mono ?_); rintro e w11 ⟨rfl, hb⟩; refine ⟨_, rfl, ?_⟩; have n0_ := Aside0.mk (below_step (by repeat (first | (with_reducible first | exact HB.out | apply below_alloc | apply pw_below_drewN | apply below_drew1) | exact HB.out)) hb); clear HB; have HB := n0_; clear n0_; (try clear hb); (try clear hb2); (try clear hk); (try clear hi)))
                  go_roundg k1
                  case measure => have := HK1.out; omega
                  case rel => exact ⟨(x8_1 ++ t304), (wrap64 (x9_1 + 8)), (by first | rfl | (simp; done) | (simp [*]; done)), (by first | rfl | (simp; done) | (simp [*]; done)), H', ⟨by have := HK1.out; omega⟩, ⟨by repeat (first | (with_reducible first | exact HB.out | apply below_alloc | apply pw_below_drewN | apply below_drew1) | exact HB.out)⟩⟩
                · rw [if_neg c10] at H
                  exact absurd H (by simp)
              · rw [if_neg c8] at H
                exact absurd H (by simp)
            · rw [if_neg c7] at H
              exact absurd H (by simp)
          · rw [if_neg c6] at H
            exact absurd H (by simp)
        · rw [if_neg c5] at H
          have c5b0 : decide (x9_1 < (a1.size : Int)) = false := decide_eq_false c5
          clear c5
          simp only [Option.some.injEq, Prod.mk.injEq] at H
          obtain ⟨rfl, rfl⟩ := H
          go_wp2
          go_ret2
          exact ⟨by first | rfl | (simp [errW_none, errW_some] <;> rfl) | (simp [*, errW_none, errW_some] <;> rfl), by repeat (first | (with_reducible first | exact HB.out | apply below_alloc | apply pw_below_drewN | apply below_drew1) | exact HB.out)⟩
  · rw [if_neg c4] at H
    have c4b0 : (((a1.size : Int) % 8) == 0) = false := beq_eq_false_iff_ne.mpr c4
    have c4b1 : (((a1.size : Int) % 8) != 0) = true := bne_iff_ne.mpr c4
    simp only [Option.some.injEq, Prod.mk.injEq] at H
    obtain ⟨rfl, rfl⟩ := H
    go_enter Tryz.func17, Tryz.ntmps17
    go_wp2
    go_ret2
    exact ⟨by first | rfl | (simp [errW_none, errW_some] <;> rfl) | (simp [*, errW_none, errW_some] <;> rfl), by repeat (first | (with_reducible first | exact HB.out | apply below_alloc | apply pw_below_drewN | apply below_drew1) | exact HB.out)⟩

/-! ### turnstileref6_Seal: function 7 -/
def turnstileref6_Seal.f (k : Nat) (a0 : ByteArray) (a1 : Int) (a2 : ByteArray) (a3 : ByteArray) (a4 : ByteArray) : Option (ByteArray × Int) := if (a0.size : Int) = 16 then ((turnstileref6_Block.f k a1 a2 a3 a4).bind fun bt305 => (if bt305.2 = 0 then ((turnstileref3_Turn.f k a0 bt305.1 false).bind fun bt307 => (some (bt307.1, bt307.2))) else (some ((⟨#[]⟩ : ByteArray), bt305.2)))) else (some ((⟨#[]⟩ : ByteArray), 30))
set_option maxHeartbeats 8000000 in
set_option maxRecDepth 100000 in
theorem turnstileref6_Seal.calls (k : Nat) (a0 : ByteArray) (a1 : Int) (a2 : ByteArray) (a3 : ByteArray) (a4 : ByteArray) (r1 : ByteArray) (r2 : Int) (w : World) (h : turnstileref6_Seal.f k a0 a1 a2 a3 a4 = some (r1, r2)) :
    Calls Tryz.prog 7 #[.string a0, .int .i64 a1, .string a2, .string a3, .string a4] w fun e w' => e = .returned (.tuple #[.string r1, .int .i64 r2]) ∧ Below w.heap.size w w' := by
  have HB := Aside0.mk (Below.refl w.heap.size w)
  have H : (if (a0.size : Int) = 16 then ((turnstileref6_Block.f k a1 a2 a3 a4).bind fun bt305 => (if bt305.2 = 0 then ((turnstileref3_Turn.f k a0 bt305.1 false).bind fun bt307 => (some (bt307.1, bt307.2))) else (some ((⟨#[]⟩ : ByteArray), bt305.2)))) else (some ((⟨#[]⟩ : ByteArray), 30))) = some (r1, r2) := h
  clear h
  by_cases c6 : (a0.size : Int) = 16
  · rw [if_pos c6] at H
    have c6b0 : ((a0.size : Int) == 16) = true := beq_iff_eq.mpr c6
    have c6b1 : ((a0.size : Int) != 16) = false := bne_eq_false_iff_eq.mpr c6
    clear c6
    replace H := Option.bind_eq_some_iff.mp H
    obtain ⟨⟨t305, t306⟩, A70, H⟩ := H
    replace H : (if t306 = 0 then ((turnstileref3_Turn.f k a0 t305 false).bind fun bt307 => (some (bt307.1, bt307.2))) else (some ((⟨#[]⟩ : ByteArray), t306))) = some (r1, r2) := H
    have A7 := Aside0.mk A70
    clear A70
    by_cases c8 : t306 = 0
    · rw [if_pos c8] at H
      have c8b0 : (t306 == 0) = true := beq_iff_eq.mpr c8
      have c8b1 : (t306 != 0) = false := bne_eq_false_iff_eq.mpr c8
      clear c8
      replace H := Option.bind_eq_some_iff.mp H
      obtain ⟨⟨t307, t308⟩, A90, H⟩ := H
      replace H : (some (t307, t308)) = some (r1, r2) := H
      have A9 := Aside0.mk A90
      clear A90
      simp only [Option.some.injEq, Prod.mk.injEq] at H
      obtain ⟨rfl, rfl⟩ := H
      go_enter Tryz.func7, Tryz.ntmps7
      go_wp2_with (first | ((with_reducible refine gate_callee (f := 16) rfl ?_); refine goesL_ (some 22) rfl rfl Tryz.func16 (by kernel_rfl) rfl #[.int .i64 a1, .string a2, .string a3, .string a4] rfl (by (try simp only [List.map_toArray, List.map_cons, List.map_nil]); first | done | rfl | (simp only [List.length_drop, List.length_take]; rfl)) ?_; (with_reducible refine (turnstileref6_Block.calls k a1 a2 a3 a4 t305 t306 _ A7.out).mono ?_); rintro e w10 ⟨rfl, hb⟩; refine ⟨_, rfl, ?_⟩; have n0_ := Aside0.mk (below_step (by repeat (first | (with_reducible first | exact HB.out | apply below_alloc | apply pw_below_drewN | apply below_drew1) | exact HB.out)) hb); clear HB; have HB := n0_; clear n0_; (try clear hb); (try clear hb2); (try clear hk); (try clear hi)) | ((with_reducible refine gate_callee (f := 17) rfl ?_); refine goesL_ (some 30) rfl rfl Tryz.func17 (by kernel_rfl) rfl #[.string a0, .string t305, .bool false] rfl (by (try simp only [List.map_toArray, List.map_cons, List.map_nil]); first | done | rfl | (simp only [List.length_drop, List.length_take]; rfl)) ?_; (with_reducible refine (turnstileref3_Turn.calls k a0 t305 false t307 t308 _ A9.out).mono ?_); rintro e w11 ⟨rfl, hb⟩; refine ⟨_, rfl, ?_⟩; have n0_ := Aside0.mk (below_step (by repeat (first | (with_reducible first | exact HB.out | apply below_alloc | apply pw_below_drewN | apply below_drew1) | exact HB.out)) hb); clear HB; have HB := n0_; clear n0_; (try clear hb); (try clear hb2); (try clear hk); (try clear hi)))
      go_ret2
      exact ⟨by first | rfl | (simp [errW_none, errW_some] <;> rfl) | (simp [*, errW_none, errW_some] <;> rfl), by repeat (first | (with_reducible first | exact HB.out | apply below_alloc | apply pw_below_drewN | apply below_drew1) | exact HB.out)⟩
    · rw [if_neg c8] at H
      have c8b0 : (t306 == 0) = false := beq_eq_false_iff_ne.mpr c8
      have c8b1 : (t306 != 0) = true := bne_iff_ne.mpr c8
      simp only [Option.some.injEq, Prod.mk.injEq] at H
      obtain ⟨rfl, rfl⟩ := H
      go_enter Tryz.func7, Tryz.ntmps7
      go_wp2_with (first | ((with_reducible refine gate_callee (f := 16) rfl ?_); refine goesL_ (some 22) rfl rfl Tryz.func16 (by kernel_rfl) rfl #[.int .i64 a1, .string a2, .string a3, .string a4] rfl (by (try simp only [List.map_toArray, List.map_cons, List.map_nil]); first | done | rfl | (simp only [List.length_drop, List.length_take]; rfl)) ?_; (with_reducible refine (turnstileref6_Block.calls k a1 a2 a3 a4 t305 t306 _ A7.out).mono ?_); rintro e w12 ⟨rfl, hb⟩; refine ⟨_, rfl, ?_⟩; have n0_ := Aside0.mk (below_step (by repeat (first | (with_reducible first | exact HB.out | apply below_alloc | apply pw_below_drewN | apply below_drew1) | exact HB.out)) hb); clear HB; have HB := n0_; clear n0_; (try clear hb); (try clear hb2); (try clear hk); (try clear hi)))
      go_ret2
      exact ⟨by first | rfl | (simp [errW_none, errW_some] <;> rfl) | (simp [*, errW_none, errW_some] <;> rfl), by repeat (first | (with_reducible first | exact HB.out | apply below_alloc | apply pw_below_drewN | apply below_drew1) | exact HB.out)⟩
  · rw [if_neg c6] at H
    have c6b0 : ((a0.size : Int) == 16) = false := beq_eq_false_iff_ne.mpr c6
    have c6b1 : ((a0.size : Int) != 16) = true := bne_iff_ne.mpr c6
    simp only [Option.some.injEq, Prod.mk.injEq] at H
    obtain ⟨rfl, rfl⟩ := H
    go_enter Tryz.func7, Tryz.ntmps7
    go_wp2
    go_ret2
    exact ⟨by first | rfl | (simp [errW_none, errW_some] <;> rfl) | (simp [*, errW_none, errW_some] <;> rfl), by repeat (first | (with_reducible first | exact HB.out | apply below_alloc | apply pw_below_drewN | apply below_drew1) | exact HB.out)⟩

end Go.Proofs.YtkjjdodnkcmeiaaGreatDoor.PX
