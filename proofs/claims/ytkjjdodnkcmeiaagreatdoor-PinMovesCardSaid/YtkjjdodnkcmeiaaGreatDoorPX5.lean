-- Written by px.py of this session, which runs the kit's print with given contracts. Not trusted: Lean checks it.
import Derived.Test.YtkjjdodnkcmeiaaGreatDoorPX0
import Derived.Test.YtkjjdodnkcmeiaaGreatDoorPX1
import Derived.Test.YtkjjdodnkcmeiaaGreatDoorPX2
import Derived.Test.YtkjjdodnkcmeiaaGreatDoorPX4
import Derived.Test.YtkjjdodnkcmeiaaGreatDoorLib
import Derived.Test.YtkjjdodnkcmeiaaGreatDoorLibU
namespace Go.Proofs.YtkjjdodnkcmeiaaGreatDoor.PX
open Go.RowKit Go.Proofs.YtkjjdodnkcmeiaaGreatDoorW.PrintWords Go.Proofs.YtkjjdodnkcmeiaaGreatDoorW.PrintLast Go.Proofs.YtkjjdodnkcmeiaaGreatDoorW.PrintMore
attribute [local go_sem] max2_int min2_int max_two min_two max_three min_three max_four min_four   -- for this text's walks alone
set_option linter.unusedVariables false
set_option linter.unusedSimpArgs false

/-! ### pin_Open: function 13 -/
mutual
def pin_Open.j0 : Nat → Int → ByteArray → ByteArray → Bool → Bool → Option (ByteArray × Int)
  | 0, _, _, _, _, _ => none
  | k + 1, x0, x1, x2, x9, x32 => if x32 = true then (some ((⟨#[]⟩ : ByteArray), 61)) else (if x9 = true then ((pin_isPAN.f k x2).bind fun t120 => (if t120 = true then ((pin_summed.f k x1 x2).bind fun t121 => (pin_Open.j1 k x0 t121)) else (some ((⟨#[]⟩ : ByteArray), 50)))) else (pin_Open.j1 k x0 x1))
def pin_Open.j1 : Nat → Int → ByteArray → Option (ByteArray × Int)
  | 0, _, _ => none
  | k + 1, x0, x1 => (pin_unpacked.f x1).bind fun t122 => (if 0 < (x1.size : Int) then (if (wrap64 (Go.bits .and .u8 (bt x1 0) 15)) < 4 then (pin_Open.j2 k x0 t122 (wrap64 (Go.bits .and .u8 (bt x1 0) 15)) true) else (if (wrap64 (Go.bits .and .u8 (bt x1 0) 15)) > 12 then (pin_Open.j2 k x0 t122 (wrap64 (Go.bits .and .u8 (bt x1 0) 15)) true) else (if 2 ≤ (wrap64 (2 + (wrap64 (Go.bits .and .u8 (bt x1 0) 15)))) then (if (wrap64 (2 + (wrap64 (Go.bits .and .u8 (bt x1 0) 15)))) ≤ (t122.size : Int) then ((pin_isPIN.f k (t122.extract 2 ((wrap64 (2 + (wrap64 (Go.bits .and .u8 (bt x1 0) 15)))) : Int).toNat)).bind fun t123 => (pin_Open.j2 k x0 t122 (wrap64 (Go.bits .and .u8 (bt x1 0) 15)) (!t123))) else (none)) else (none)))) else (none))
def pin_Open.j2 : Nat → Int → ByteArray → Int → Bool → Option (ByteArray × Int)
  | 0, _, _, _, _ => none
  | k + 1, x0, x10, x11, x59 => if x59 = true then (some ((⟨#[]⟩ : ByteArray), 60)) else (if 0 ≤ (wrap64 (2 + x11)) then (if (wrap64 (2 + x11)) ≤ (x10.size : Int) then (if x0 = 0 then ((strings_Trim.f (x10.extract ((wrap64 (2 + x11)) : Int).toNat x10.size) (⟨#[70]⟩ : ByteArray)).bind fun t124 => (if t124.toList = ([] : List UInt8) then (if x0 = 3 then (if 10 ≤ 16 then ((pin_within.f k (x10.extract ((wrap64 (2 + x11)) : Int).toNat x10.size) ((⟨#[48, 49, 50, 51, 52, 53, 54, 55, 56, 57, 65, 66, 67, 68, 69, 70]⟩ : ByteArray).extract 10 16) 0 14).bind fun t125 => (if t125 = true then (if 2 ≤ (wrap64 (2 + x11)) then (some (x10.extract 2 ((wrap64 (2 + x11)) : Int).toNat, 0)) else (none)) else (some ((⟨#[]⟩ : ByteArray), 60)))) else (none)) else (if 2 ≤ (wrap64 (2 + x11)) then (some (x10.extract 2 ((wrap64 (2 + x11)) : Int).toNat, 0)) else (none))) else (some ((⟨#[]⟩ : ByteArray), 60)))) else (if x0 = 3 then (if 10 ≤ 16 then ((pin_within.f k (x10.extract ((wrap64 (2 + x11)) : Int).toNat x10.size) ((⟨#[48, 49, 50, 51, 52, 53, 54, 55, 56, 57, 65, 66, 67, 68, 69, 70]⟩ : ByteArray).extract 10 16) 0 14).bind fun t126 => (if t126 = true then (if 2 ≤ (wrap64 (2 + x11)) then (some (x10.extract 2 ((wrap64 (2 + x11)) : Int).toNat, 0)) else (none)) else (some ((⟨#[]⟩ : ByteArray), 60)))) else (none)) else (if 2 ≤ (wrap64 (2 + x11)) then (some (x10.extract 2 ((wrap64 (2 + x11)) : Int).toNat, 0)) else (none)))) else (none)) else (none))
end
def pin_Open.f (k : Nat) (a0 : Int) (a1 : ByteArray) (a2 : ByteArray) : Option (ByteArray × Int) := (pin_known.f a0).bind fun bt118 => (if bt118.1 = true then (if (a1.size : Int) = 8 then (if 0 < (a1.size : Int) then (pin_Open.j0 k a0 a1 a2 bt118.2 ((wrap64 ((bt a1 0) / 16)) != a0)) else (none)) else (pin_Open.j0 k a0 a1 a2 bt118.2 true)) else (pin_Open.j0 k a0 a1 a2 bt118.2 true))
set_option maxHeartbeats 8000000 in
set_option maxRecDepth 100000 in
theorem pin_Open.calls (k : Nat) (a0 : Int) (a1 : ByteArray) (a2 : ByteArray) (r1 : ByteArray) (r2 : Int) (w : World) (h : pin_Open.f k a0 a1 a2 = some (r1, r2)) :
    Calls Tryz.prog 13 #[.int .i64 a0, .string a1, .string a2] w fun e w' => e = .returned (.tuple #[.string r1, .int .i64 r2]) ∧ Below w.heap.size w w' := by
  have HB := Aside0.mk (Below.refl w.heap.size w)
  have H : ((pin_known.f a0).bind fun bt118 => (if bt118.1 = true then (if (a1.size : Int) = 8 then (if 0 < (a1.size : Int) then (pin_Open.j0 k a0 a1 a2 bt118.2 ((wrap64 ((bt a1 0) / 16)) != a0)) else (none)) else (pin_Open.j0 k a0 a1 a2 bt118.2 true)) else (pin_Open.j0 k a0 a1 a2 bt118.2 true))) = some (r1, r2) := h
  clear h
  replace H := Option.bind_eq_some_iff.mp H
  obtain ⟨⟨t118, t119⟩, A40, H⟩ := H
  replace H : (if t118 = true then (if (a1.size : Int) = 8 then (if 0 < (a1.size : Int) then (pin_Open.j0 k a0 a1 a2 t119 ((wrap64 ((bt a1 0) / 16)) != a0)) else (none)) else (pin_Open.j0 k a0 a1 a2 t119 true)) else (pin_Open.j0 k a0 a1 a2 t119 true)) = some (r1, r2) := H
  have A4 := Aside0.mk A40
  clear A40
  have HC5 := Aside0.mk H
  clear H
  go_enter Tryz.func13, Tryz.ntmps13
  go_upto_region 2 with (first | ((with_reducible refine gate_callee (f := 20) rfl ?_); refine goesL_ (some 15) rfl rfl Tryz.func20 (by kernel_rfl) rfl #[.int .i64 a0] rfl (by (try simp only [List.map_toArray, List.map_cons, List.map_nil]); first | done | rfl | (simp only [List.length_drop, List.length_take]; rfl)) ?_; (with_reducible refine (pin_known.calls a0 t118 t119 _ A4.out).mono ?_); rintro e w' ⟨rfl, ⟨nd, rfl⟩⟩; refine ⟨_, rfl, ?_⟩))
  (try simp only [Act.put, List.setIfInBounds_toArray, List.set_cons_zero, List.set_cons_succ])
  go_cut [32] (fun v32 wc => ∃ (kq : Nat) (x32_4 : Bool), v32 = .bool x32_4 ∧ Aside0 (pin_Open.j0 kq a0 a1 a2 t119 x32_4 = some (r1, r2)) ∧ Aside0 (kq ≤ k) ∧ Aside0 (Below w.heap.size w wc))
  case first =>
    have H := HC5.out
    clear HC5
    by_cases c6 : t118 = true
    · subst c6
      have H1 : (if (a1.size : Int) = 8 then (if 0 < (a1.size : Int) then (pin_Open.j0 k a0 a1 a2 t119 ((wrap64 ((bt a1 0) / 16)) != a0)) else (none)) else (pin_Open.j0 k a0 a1 a2 t119 true)) = some (r1, r2) := by rw [if_pos rfl] at H; exact H
      clear H
      have H := H1
      clear H1
      by_cases c7 : (a1.size : Int) = 8
      · rw [if_pos c7] at H
        have c7b0 : ((a1.size : Int) == 8) = true := beq_iff_eq.mpr c7
        have c7b1 : ((a1.size : Int) != 8) = false := bne_eq_false_iff_eq.mpr c7
        clear c7
        (first | rw [c7b0] | (simp only [i64_w, i32_w]; rw [c7b0]) | skip)
        by_cases c8 : 0 < (a1.size : Int)
        · rw [if_pos c8] at H
          have c8b0 : decide (0 < (a1.size : Int)) = true := decide_eq_true c8
          have c8b1 : decide (0 < a1.size) = true := decide_eq_true (by omega)
          clear c8
          have H' := Aside0.mk H
          clear H
          have p9 : 0 ≤ (0 : Int) := (by omega)
          have q9 : 0 < a1.size := (by have : (0 : Int) < (a1.size : Int) := of_decide_eq_true (by first | (with_reducible assumption) | assumption); omega)
          have hx9 : ∀ h : 0 < a1.size, ((a1[0]'h).toNat : Int) = bt a1 0 := bt_at a1 0
          clear p9
          have qi9 : (0 < (a1.size : Int)) = True := eq_true (of_decide_eq_true (by first | (with_reducible assumption) | assumption))
          replace q9 := eq_true q9
          go_wp2
          go_meet
          case rel => exact ⟨_, (((wrap64 ((bt a1 0) / 16)) != a0)), (by first | rfl | (simp; done) | (simp [*]; done)), H', ⟨by first | omega | exact Nat.le_refl _⟩, ⟨by repeat (first | (with_reducible first | exact HB.out | apply below_alloc | apply pw_below_drewN | apply below_drew1) | exact HB.out)⟩⟩
        · rw [if_neg c8] at H
          exact absurd H (by simp)
      · rw [if_neg c7] at H
        have c7b0 : ((a1.size : Int) == 8) = false := beq_eq_false_iff_ne.mpr c7
        have c7b1 : ((a1.size : Int) != 8) = true := bne_iff_ne.mpr c7
        (first | rw [c7b0] | (simp only [i64_w, i32_w]; rw [c7b0]) | skip)
        have H' := Aside0.mk H
        clear H
        go_wp2
        go_meet
        case rel => exact ⟨_, (true), (by first | rfl | (simp; done) | (simp [*]; done)), H', ⟨by first | omega | exact Nat.le_refl _⟩, ⟨by repeat (first | (with_reducible first | exact HB.out | apply below_alloc | apply pw_below_drewN | apply below_drew1) | exact HB.out)⟩⟩
    · replace c6 := Bool.eq_false_iff.mpr c6
      subst c6
      have H1 : (pin_Open.j0 k a0 a1 a2 t119 true) = some (r1, r2) := by rw [if_neg (show ¬ (false = true) by decide)] at H; exact H
      clear H
      have H := H1
      clear H1
      have H' := Aside0.mk H
      clear H
      go_wp2
      go_meet
      case rel => exact ⟨_, (true), (by first | rfl | (simp; done) | (simp [*]; done)), H', ⟨by first | omega | exact Nat.le_refl _⟩, ⟨by repeat (first | (with_reducible first | exact HB.out | apply below_alloc | apply pw_below_drewN | apply below_drew1) | exact HB.out)⟩⟩
  case rest =>
    clear HC5
    try clear c1
    try clear c2
    try clear p2
    try clear c6
    try clear p6
    try clear c7
    try clear c7b0
    try clear c7b1
    try clear c8
    try clear c8b0
    try clear c8b1
    try clear p9
    try clear q9
    try clear hx9
    try clear qi9
    try clear p9
    try clear q9
    obtain ⟨kq, x32_4, rfl, HA, HJ4, HB⟩ := hcut
    cases kq with
    | zero => exact absurd HA.out (by simp [pin_Open.j0])
    | succ kj4 =>
      have H := HA.out
      clear HA
      simp only [pin_Open.j0] at H
      by_cases c10 : x32_4 = true
      · subst c10
        have H1 : (some ((⟨#[]⟩ : ByteArray), 61)) = some (r1, r2) := by rw [if_pos rfl] at H; exact H
        clear H
        have H := H1
        clear H1
        simp only [Option.some.injEq, Prod.mk.injEq] at H
        obtain ⟨rfl, rfl⟩ := H
        go_wp2
        go_ret2
        exact ⟨by first | rfl | (simp [errW_none, errW_some] <;> rfl) | (simp [*, errW_none, errW_some] <;> rfl), by repeat (first | (with_reducible first | exact HB.out | apply below_alloc | apply pw_below_drewN | apply below_drew1) | exact HB.out)⟩
      · replace c10 := Bool.eq_false_iff.mpr c10
        subst c10
        have H1 : (if t119 = true then ((pin_isPAN.f kj4 a2).bind fun t120 => (if t120 = true then ((pin_summed.f kj4 a1 a2).bind fun t121 => (pin_Open.j1 kj4 a0 t121)) else (some ((⟨#[]⟩ : ByteArray), 50)))) else (pin_Open.j1 kj4 a0 a1)) = some (r1, r2) := by rw [if_neg (show ¬ (false = true) by decide)] at H; exact H
        clear H
        have H := H1
        clear H1
        have HC11 := Aside0.mk H
        clear H
        go_upto_if 33 with (fail)
        go_cut [1] (fun v1 wc => ∃ (kq : Nat) (x1_10 : ByteArray), v1 = .string x1_10 ∧ Aside0 (pin_Open.j1 kq a0 x1_10 = some (r1, r2)) ∧ Aside0 (kq ≤ kj4) ∧ Aside0 (Below w.heap.size w wc))
        case first =>
          have H := HC11.out
          clear HC11
          by_cases c12 : t119 = true
          · subst c12
            have H1 : ((pin_isPAN.f kj4 a2).bind fun t120 => (if t120 = true then ((pin_summed.f kj4 a1 a2).bind fun t121 => (pin_Open.j1 kj4 a0 t121)) else (some ((⟨#[]⟩ : ByteArray), 50)))) = some (r1, r2) := by rw [if_pos rfl] at H; exact H
            clear H
            have H := H1
            clear H1
            replace H := Option.bind_eq_some_iff.mp H
            obtain ⟨t120, A130, H⟩ := H
            replace H : (if t120 = true then ((pin_summed.f kj4 a1 a2).bind fun t121 => (pin_Open.j1 kj4 a0 t121)) else (some ((⟨#[]⟩ : ByteArray), 50))) = some (r1, r2) := H
            have A13 := Aside0.mk A130
            clear A130
            by_cases c14 : t120 = true
            · subst c14
              have H1 : ((pin_summed.f kj4 a1 a2).bind fun t121 => (pin_Open.j1 kj4 a0 t121)) = some (r1, r2) := by rw [if_pos rfl] at H; exact H
              clear H
              have H := H1
              clear H1
              replace H := Option.bind_eq_some_iff.mp H
              obtain ⟨t121, A150, H⟩ := H
              replace H : (pin_Open.j1 kj4 a0 t121) = some (r1, r2) := H
              have A15 := Aside0.mk A150
              clear A150
              have H' := Aside0.mk H
              clear H
              go_wp2_with (first | ((with_reducible refine gate_callee (f := 22) rfl ?_); refine goesL_ (some 35) rfl rfl Tryz.func22 (by kernel_rfl) rfl #[.string a2] rfl (by (try simp only [List.map_toArray, List.map_cons, List.map_nil]); first | done | rfl | (simp only [List.length_drop, List.length_take]; rfl)) ?_; (with_reducible refine (pin_isPAN.calls kj4 a2 true _ A13.out).mono ?_); rintro e w' ⟨rfl, ⟨nd, rfl⟩⟩; refine ⟨_, rfl, ?_⟩) | ((with_reducible refine gate_callee (f := 27) rfl ?_); refine goesL_ (some 39) rfl rfl Tryz.func27 (by kernel_rfl) rfl #[.string a1, .string a2] rfl (by (try simp only [List.map_toArray, List.map_cons, List.map_nil]); first | done | rfl | (simp only [List.length_drop, List.length_take]; rfl)) ?_; (with_reducible refine (pin_summed.calls kj4 a1 a2 t121 _ A15.out).mono ?_); rintro e w16 ⟨rfl, hb⟩; refine ⟨_, rfl, ?_⟩; have n0_ := Aside0.mk (below_step (by repeat (first | (with_reducible first | exact HB.out | apply below_alloc | apply pw_below_drewN | apply below_drew1) | exact HB.out)) hb); clear HB; have HB := n0_; clear n0_; (try clear hb); (try clear hb2); (try clear hk); (try clear hi)))
              go_meet
              case rel => exact ⟨_, (t121), (by first | rfl | (simp; done) | (simp [*]; done)), H', ⟨by have := HJ4.out; first | omega | exact Nat.le_refl _⟩, ⟨by repeat (first | (with_reducible first | exact HB.out | apply below_alloc | apply pw_below_drewN | apply below_drew1) | exact HB.out)⟩⟩
            · replace c14 := Bool.eq_false_iff.mpr c14
              subst c14
              have H1 : (some ((⟨#[]⟩ : ByteArray), 50)) = some (r1, r2) := by rw [if_neg (show ¬ (false = true) by decide)] at H; exact H
              clear H
              have H := H1
              clear H1
              simp only [Option.some.injEq, Prod.mk.injEq] at H
              obtain ⟨rfl, rfl⟩ := H
              go_wp2_with (first | ((with_reducible refine gate_callee (f := 22) rfl ?_); refine goesL_ (some 35) rfl rfl Tryz.func22 (by kernel_rfl) rfl #[.string a2] rfl (by (try simp only [List.map_toArray, List.map_cons, List.map_nil]); first | done | rfl | (simp only [List.length_drop, List.length_take]; rfl)) ?_; (with_reducible refine (pin_isPAN.calls kj4 a2 false _ A13.out).mono ?_); rintro e w' ⟨rfl, ⟨nd, rfl⟩⟩; refine ⟨_, rfl, ?_⟩))
              go_ret2
              exact ⟨by first | rfl | (simp [errW_none, errW_some] <;> rfl) | (simp [*, errW_none, errW_some] <;> rfl), by repeat (first | (with_reducible first | exact HB.out | apply below_alloc | apply pw_below_drewN | apply below_drew1) | exact HB.out)⟩
          · replace c12 := Bool.eq_false_iff.mpr c12
            subst c12
            have H1 : (pin_Open.j1 kj4 a0 a1) = some (r1, r2) := by rw [if_neg (show ¬ (false = true) by decide)] at H; exact H
            clear H
            have H := H1
            clear H1
            have H' := Aside0.mk H
            clear H
            go_wp2
            go_meet
            case rel => exact ⟨_, (a1), (by first | rfl | (simp; done) | (simp [*]; done)), H', ⟨by have := HJ4.out; first | omega | exact Nat.le_refl _⟩, ⟨by repeat (first | (with_reducible first | exact HB.out | apply below_alloc | apply pw_below_drewN | apply below_drew1) | exact HB.out)⟩⟩
        case rest =>
          clear HC11
          try clear c1
          try clear c2
          try clear p2
          try clear c6
          try clear p6
          try clear c7
          try clear c7b0
          try clear c7b1
          try clear c8
          try clear c8b0
          try clear c8b1
          try clear p9
          try clear q9
          try clear hx9
          try clear qi9
          try clear c10
          try clear c12
          try clear c13
          try clear c14
          try clear p2
          try clear p6
          try clear p9
          try clear q9
          obtain ⟨kq, x1_10, rfl, HA, HJ10, HB⟩ := hcut
          cases kq with
          | zero => exact absurd HA.out (by simp [pin_Open.j1])
          | succ kj10 =>
            have H := HA.out
            clear HA
            simp only [pin_Open.j1] at H
            replace H := Option.bind_eq_some_iff.mp H
            obtain ⟨t122, A170, H⟩ := H
            replace H : (if 0 < (x1_10.size : Int) then (if (wrap64 (Go.bits .and .u8 (bt x1_10 0) 15)) < 4 then (pin_Open.j2 kj10 a0 t122 (wrap64 (Go.bits .and .u8 (bt x1_10 0) 15)) true) else (if (wrap64 (Go.bits .and .u8 (bt x1_10 0) 15)) > 12 then (pin_Open.j2 kj10 a0 t122 (wrap64 (Go.bits .and .u8 (bt x1_10 0) 15)) true) else (if 2 ≤ (wrap64 (2 + (wrap64 (Go.bits .and .u8 (bt x1_10 0) 15)))) then (if (wrap64 (2 + (wrap64 (Go.bits .and .u8 (bt x1_10 0) 15)))) ≤ (t122.size : Int) then ((pin_isPIN.f kj10 (t122.extract 2 ((wrap64 (2 + (wrap64 (Go.bits .and .u8 (bt x1_10 0) 15)))) : Int).toNat)).bind fun t123 => (pin_Open.j2 kj10 a0 t122 (wrap64 (Go.bits .and .u8 (bt x1_10 0) 15)) (!t123))) else (none)) else (none)))) else (none)) = some (r1, r2) := H
            have A17 := Aside0.mk A170
            clear A170
            by_cases c18 : 0 < (x1_10.size : Int)
            · rw [if_pos c18] at H
              have c18b0 : decide (0 < (x1_10.size : Int)) = true := decide_eq_true c18
              have c18b1 : decide (0 < x1_10.size) = true := decide_eq_true (by omega)
              clear c18
              have HC20 := Aside0.mk H
              clear H
              go_upto_region 10 with (first | ((with_reducible refine gate_callee (f := 28) rfl ?_); refine goesL_ (some 41) rfl rfl Tryz.func28 (by kernel_rfl) rfl #[.string x1_10] rfl (by (try simp only [List.map_toArray, List.map_cons, List.map_nil]); first | done | rfl | (simp only [List.length_drop, List.length_take]; rfl)) ?_; (with_reducible refine (pin_unpacked.calls x1_10 t122 _ A17.out).mono ?_); rintro e w21 ⟨rfl, hb⟩; refine ⟨_, rfl, ?_⟩; have n0_ := Aside0.mk (below_step (by repeat (first | (with_reducible first | exact HB.out | apply below_alloc | apply pw_below_drewN | apply below_drew1) | exact HB.out)) hb); clear HB; have HB := n0_; clear n0_; (try clear hb); (try clear hb2); (try clear hk); (try clear hi); have p19 : 0 ≤ (0 : Int) := (by omega); have q19 : 0 < x1_10.size := (by have : (0 : Int) < (x1_10.size : Int) := of_decide_eq_true (by first | (with_reducible assumption) | assumption); omega); have hx19 : ∀ h : 0 < x1_10.size, ((x1_10[0]'h).toNat : Int) = bt x1_10 0 := bt_at x1_10 0; clear p19; have qi19 : (0 < (x1_10.size : Int)) = True := eq_true (of_decide_eq_true (by first | (with_reducible assumption) | assumption)); replace q19 := eq_true q19))
              (try simp only [Act.put, List.setIfInBounds_toArray, List.set_cons_zero, List.set_cons_succ])
              go_cut [59] (fun v59 wc => ∃ (kq : Nat) (x59_19 : Bool), v59 = .bool x59_19 ∧ Aside0 (pin_Open.j2 kq a0 t122 (wrap64 (Go.bits .and .u8 (bt x1_10 0) 15)) x59_19 = some (r1, r2)) ∧ Aside0 (kq ≤ kj10) ∧ Aside0 (Below w.heap.size w wc))
              case first =>
                have H := HC20.out
                clear HC20
                by_cases c22 : (wrap64 (Go.bits .and .u8 (bt x1_10 0) 15)) < 4
                · rw [if_pos c22] at H
                  have c22b0 : decide ((wrap64 (Go.bits .and .u8 (bt x1_10 0) 15)) < 4) = true := decide_eq_true c22
                  clear c22
                  (first | rw [c22b0] | (simp only [i64_w, i32_w]; rw [c22b0]) | skip)
                  have H' := Aside0.mk H
                  clear H
                  go_wp2
                  go_meet
                  case rel => exact ⟨_, (true), (by first | rfl | (simp; done) | (simp [*]; done)), H', ⟨by have := HJ4.out; have := HJ10.out; first | omega | exact Nat.le_refl _⟩, ⟨by repeat (first | (with_reducible first | exact HB.out | apply below_alloc | apply pw_below_drewN | apply below_drew1) | exact HB.out)⟩⟩
                · rw [if_neg c22] at H
                  have c22b0 : decide ((wrap64 (Go.bits .and .u8 (bt x1_10 0) 15)) < 4) = false := decide_eq_false c22
                  clear c22
                  (first | rw [c22b0] | (simp only [i64_w, i32_w]; rw [c22b0]) | skip)
                  by_cases c23 : (wrap64 (Go.bits .and .u8 (bt x1_10 0) 15)) > 12
                  · rw [if_pos c23] at H
                    have c23b0 : decide (12 < (wrap64 (Go.bits .and .u8 (bt x1_10 0) 15))) = true := decide_eq_true c23
                    clear c23
                    have H' := Aside0.mk H
                    clear H
                    go_wp2
                    go_meet
                    case rel => exact ⟨_, (true), (by first | rfl | (simp; done) | (simp [*]; done)), H', ⟨by have := HJ4.out; have := HJ10.out; first | omega | exact Nat.le_refl _⟩, ⟨by repeat (first | (with_reducible first | exact HB.out | apply below_alloc | apply pw_below_drewN | apply below_drew1) | exact HB.out)⟩⟩
                  · rw [if_neg c23] at H
                    have c23b0 : decide (12 < (wrap64 (Go.bits .and .u8 (bt x1_10 0) 15))) = false := decide_eq_false c23
                    clear c23
                    by_cases c24 : 2 ≤ (wrap64 (2 + (wrap64 (Go.bits .and .u8 (bt x1_10 0) 15))))
                    · rw [if_pos c24] at H
                      have c24b0 := eq_true c24
                      have c24b1 : decide (2 ≤ (wrap64 (2 + (wrap64 (Go.bits .and .u8 (bt x1_10 0) 15))))) = true := decide_eq_true c24
                      by_cases c25 : (wrap64 (2 + (wrap64 (Go.bits .and .u8 (bt x1_10 0) 15)))) ≤ (t122.size : Int)
                      · rw [if_pos c25] at H
                        have c25b0 := eq_true c25
                        have c25b1 : decide ((wrap64 (2 + (wrap64 (Go.bits .and .u8 (bt x1_10 0) 15)))) ≤ (t122.size : Int)) = true := decide_eq_true c25
                        replace H := Option.bind_eq_some_iff.mp H
                        obtain ⟨t123, A260, H⟩ := H
                        replace H : (pin_Open.j2 kj10 a0 t122 (wrap64 (Go.bits .and .u8 (bt x1_10 0) 15)) (!t123)) = some (r1, r2) := H
                        have A26 := Aside0.mk A260
                        clear A260
                        have H' := Aside0.mk H
                        clear H
                        go_wp2_with (first | (go_at_call 21; (with_reducible refine (pin_isPIN.calls kj10 (t122.extract 2 ((wrap64 (2 + (wrap64 (Go.bits .and .u8 (bt x1_10 0) 15)))) : Int).toNat) t123 _ A26.out).mono ?_); rintro e w' ⟨rfl, ⟨nd, rfl⟩⟩))
                        go_meet
                        case rel => exact ⟨_, (!t123), (by first | rfl | (simp; done) | (simp [*]; done)), H', ⟨by have := HJ4.out; have := HJ10.out; first | omega | exact Nat.le_refl _⟩, ⟨by repeat (first | (with_reducible first | exact HB.out | apply below_alloc | apply pw_below_drewN | apply below_drew1) | exact HB.out)⟩⟩
                      · rw [if_neg c25] at H
                        exact absurd H (by simp)
                    · rw [if_neg c24] at H
                      exact absurd H (by simp)
              case rest =>
                clear HC20
                try clear c1
                try clear p1
                try clear q1
                try clear hx1
                try clear qi1
                try clear c2
                try clear p2
                try clear c6
                try clear p6
                try clear c7
                try clear c7b0
                try clear c7b1
                try clear c8
                try clear c8b0
                try clear c8b1
                try clear p9
                try clear q9
                try clear hx9
                try clear qi9
                try clear c10
                try clear c12
                try clear c13
                try clear c14
                try clear c18
                try clear c18b0
                try clear c18b1
                try clear p19
                try clear q19
                try clear hx19
                try clear qi19
                try clear c20
                try clear c22
                try clear c22b0
                try clear c23
                try clear c23b0
                try clear c24
                try clear c24b0
                try clear c24b1
                try clear c25
                try clear c25b0
                try clear c25b1
                try clear p19
                try clear p2
                try clear p6
                try clear p9
                try clear q19
                try clear q9
                obtain ⟨kq, x59_19, rfl, HA, HJ19, HB⟩ := hcut
                cases kq with
                | zero => exact absurd HA.out (by simp [pin_Open.j2])
                | succ kj19 =>
                  have H := HA.out
                  clear HA
                  simp only [pin_Open.j2] at H
                  by_cases c27 : x59_19 = true
                  · subst c27
                    have H1 : (some ((⟨#[]⟩ : ByteArray), 60)) = some (r1, r2) := by rw [if_pos rfl] at H; exact H
                    clear H
                    have H := H1
                    clear H1
                    simp only [Option.some.injEq, Prod.mk.injEq] at H
                    obtain ⟨rfl, rfl⟩ := H
                    go_wp2
                    go_ret2
                    exact ⟨by first | rfl | (simp [errW_none, errW_some] <;> rfl) | (simp [*, errW_none, errW_some] <;> rfl), by repeat (first | (with_reducible first | exact HB.out | apply below_alloc | apply pw_below_drewN | apply below_drew1) | exact HB.out)⟩
                  · replace c27 := Bool.eq_false_iff.mpr c27
                    subst c27
                    have H1 : (if 0 ≤ (wrap64 (2 + (wrap64 (Go.bits .and .u8 (bt x1_10 0) 15)))) then (if (wrap64 (2 + (wrap64 (Go.bits .and .u8 (bt x1_10 0) 15)))) ≤ (t122.size : Int) then (if a0 = 0 then ((strings_Trim.f (t122.extract ((wrap64 (2 + (wrap64 (Go.bits .and .u8 (bt x1_10 0) 15)))) : Int).toNat t122.size) (⟨#[70]⟩ : ByteArray)).bind fun t124 => (if t124.toList = ([] : List UInt8) then (if a0 = 3 then (if 10 ≤ 16 then ((pin_within.f kj19 (t122.extract ((wrap64 (2 + (wrap64 (Go.bits .and .u8 (bt x1_10 0) 15)))) : Int).toNat t122.size) ((⟨#[48, 49, 50, 51, 52, 53, 54, 55, 56, 57, 65, 66, 67, 68, 69, 70]⟩ : ByteArray).extract 10 16) 0 14).bind fun t125 => (if t125 = true then (if 2 ≤ (wrap64 (2 + (wrap64 (Go.bits .and .u8 (bt x1_10 0) 15)))) then (some (t122.extract 2 ((wrap64 (2 + (wrap64 (Go.bits .and .u8 (bt x1_10 0) 15)))) : Int).toNat, 0)) else (none)) else (some ((⟨#[]⟩ : ByteArray), 60)))) else (none)) else (if 2 ≤ (wrap64 (2 + (wrap64 (Go.bits .and .u8 (bt x1_10 0) 15)))) then (some (t122.extract 2 ((wrap64 (2 + (wrap64 (Go.bits .and .u8 (bt x1_10 0) 15)))) : Int).toNat, 0)) else (none))) else (some ((⟨#[]⟩ : ByteArray), 60)))) else (if a0 = 3 then (if 10 ≤ 16 then ((pin_within.f kj19 (t122.extract ((wrap64 (2 + (wrap64 (Go.bits .and .u8 (bt x1_10 0) 15)))) : Int).toNat t122.size) ((⟨#[48, 49, 50, 51, 52, 53, 54, 55, 56, 57, 65, 66, 67, 68, 69, 70]⟩ : ByteArray).extract 10 16) 0 14).bind fun t126 => (if t126 = true then (if 2 ≤ (wrap64 (2 + (wrap64 (Go.bits .and .u8 (bt x1_10 0) 15)))) then (some (t122.extract 2 ((wrap64 (2 + (wrap64 (Go.bits .and .u8 (bt x1_10 0) 15)))) : Int).toNat, 0)) else (none)) else (some ((⟨#[]⟩ : ByteArray), 60)))) else (none)) else (if 2 ≤ (wrap64 (2 + (wrap64 (Go.bits .and .u8 (bt x1_10 0) 15)))) then (some (t122.extract 2 ((wrap64 (2 + (wrap64 (Go.bits .and .u8 (bt x1_10 0) 15)))) : Int).toNat, 0)) else (none)))) else (none)) else (none)) = some (r1, r2) := by rw [if_neg (show ¬ (false = true) by decide)] at H; exact H
                    clear H
                    have H := H1
                    clear H1
                    obtain ⟨ji28, hji28⟩ : ∃ j_ : Int, (wrap64 (2 + (wrap64 (Go.bits .and .u8 (bt x1_10 0) 15)))) = j_ := ⟨_, rfl⟩
                    replace H : (if 0 ≤ (ji28) then (if (ji28) ≤ (t122.size : Int) then (if a0 = 0 then ((strings_Trim.f (t122.extract ((ji28) : Int).toNat t122.size) (⟨#[70]⟩ : ByteArray)).bind fun t124 => (if t124.toList = ([] : List UInt8) then (if a0 = 3 then (if 10 ≤ 16 then ((pin_within.f kj19 (t122.extract ((ji28) : Int).toNat t122.size) ((⟨#[48, 49, 50, 51, 52, 53, 54, 55, 56, 57, 65, 66, 67, 68, 69, 70]⟩ : ByteArray).extract 10 16) 0 14).bind fun t125 => (if t125 = true then (if 2 ≤ (ji28) then (some (t122.extract 2 ((ji28) : Int).toNat, 0)) else (none)) else (some ((⟨#[]⟩ : ByteArray), 60)))) else (none)) else (if 2 ≤ (ji28) then (some (t122.extract 2 ((ji28) : Int).toNat, 0)) else (none))) else (some ((⟨#[]⟩ : ByteArray), 60)))) else (if a0 = 3 then (if 10 ≤ 16 then ((pin_within.f kj19 (t122.extract ((ji28) : Int).toNat t122.size) ((⟨#[48, 49, 50, 51, 52, 53, 54, 55, 56, 57, 65, 66, 67, 68, 69, 70]⟩ : ByteArray).extract 10 16) 0 14).bind fun t126 => (if t126 = true then (if 2 ≤ (ji28) then (some (t122.extract 2 ((ji28) : Int).toNat, 0)) else (none)) else (some ((⟨#[]⟩ : ByteArray), 60)))) else (none)) else (if 2 ≤ (ji28) then (some (t122.extract 2 ((ji28) : Int).toNat, 0)) else (none)))) else (none)) else (none)) = some (r1, r2) := by first | (rw [hji28] at H; exact H) | (simp only [hji28] at H ⊢; exact H)
                    have hji28w : (IntKind.i64.wrap (2 + (wrap64 (Go.bits .and .u8 (bt x1_10 0) 15)))) = ji28 := (i64_w _).trans hji28
                    by_cases c29 : 0 ≤ (ji28)
                    · rw [if_pos c29] at H
                      have c29b0 := eq_true c29
                      have c29b1 : decide (0 ≤ (ji28)) = true := decide_eq_true c29
                      clear c29
                      by_cases c30 : (ji28) ≤ (t122.size : Int)
                      · rw [if_pos c30] at H
                        have c30b0 := eq_true c30
                        have c30b1 : decide ((ji28) ≤ (t122.size : Int)) = true := decide_eq_true c30
                        clear c30
                        by_cases c31 : a0 = 0
                        · rw [if_pos c31] at H
                          have c31b0 : (a0 == 0) = true := beq_iff_eq.mpr c31
                          have c31b1 : (a0 != 0) = false := bne_eq_false_iff_eq.mpr c31
                          clear c31
                          replace H := Option.bind_eq_some_iff.mp H
                          obtain ⟨t124, A320, H⟩ := H
                          replace H : (if t124.toList = ([] : List UInt8) then (if a0 = 3 then (if 10 ≤ 16 then ((pin_within.f kj19 (t122.extract ((ji28) : Int).toNat t122.size) ((⟨#[48, 49, 50, 51, 52, 53, 54, 55, 56, 57, 65, 66, 67, 68, 69, 70]⟩ : ByteArray).extract 10 16) 0 14).bind fun t125 => (if t125 = true then (if 2 ≤ (ji28) then (some (t122.extract 2 ((ji28) : Int).toNat, 0)) else (none)) else (some ((⟨#[]⟩ : ByteArray), 60)))) else (none)) else (if 2 ≤ (ji28) then (some (t122.extract 2 ((ji28) : Int).toNat, 0)) else (none))) else (some ((⟨#[]⟩ : ByteArray), 60))) = some (r1, r2) := H
                          have A32 := Aside0.mk A320
                          clear A320
                          by_cases c33 : t124.toList = ([] : List UInt8)
                          · rw [if_pos c33] at H
                            have c33b0 : (t124.toList == ([] : List UInt8)) = true := beq_iff_eq.mpr c33
                            have c33b1 : (t124.toList != ([] : List UInt8)) = false := bne_eq_false_iff_eq.mpr c33
                            clear c33
                            by_cases c34 : a0 = 3
                            · rw [if_pos c34] at H
                              have c34b0 : (a0 == 3) = true := beq_iff_eq.mpr c34
                              have c34b1 : (a0 != 3) = false := bne_eq_false_iff_eq.mpr c34
                              clear c34
                              by_cases c35 : 10 ≤ 16
                              · rw [if_pos c35] at H
                                have c35b0 := eq_true c35
                                have c35b1 : decide (10 ≤ 16) = true := decide_eq_true c35
                                clear c35
                                replace H := Option.bind_eq_some_iff.mp H
                                obtain ⟨t125, A360, H⟩ := H
                                replace H : (if t125 = true then (if 2 ≤ (ji28) then (some (t122.extract 2 ((ji28) : Int).toNat, 0)) else (none)) else (some ((⟨#[]⟩ : ByteArray), 60))) = some (r1, r2) := H
                                have A36 := Aside0.mk A360
                                clear A360
                                by_cases c37 : t125 = true
                                · subst c37
                                  have H1 : (if 2 ≤ (ji28) then (some (t122.extract 2 ((ji28) : Int).toNat, 0)) else (none)) = some (r1, r2) := by rw [if_pos rfl] at H; exact H
                                  clear H
                                  have H := H1
                                  clear H1
                                  by_cases c38 : 2 ≤ (ji28)
                                  · rw [if_pos c38] at H
                                    have c38b0 := eq_true c38
                                    have c38b1 : decide (2 ≤ (ji28)) = true := decide_eq_true c38
                                    clear c38
                                    have c39b0 := eq_true (of_decide_eq_true (by first | (with_reducible assumption) | assumption) : (ji28) ≤ (t122.size : Int))
                                    simp only [Option.some.injEq, Prod.mk.injEq] at H
                                    obtain ⟨rfl, rfl⟩ := H
                                    go_wp2_with (first | (go_at_call 29; (with_reducible refine (strings_Trim.calls (t122.extract ((ji28) : Int).toNat t122.size) (⟨#[70]⟩ : ByteArray) t124 _ A32.out).mono ?_); rintro e w40 ⟨rfl, hb⟩; have n0_ := Aside0.mk (below_step (by repeat (first | (with_reducible first | exact HB.out | apply below_alloc | apply pw_below_drewN | apply below_drew1) | exact HB.out)) hb); clear HB; have HB := n0_; clear n0_; (try clear hb); (try clear hb2); (try clear hk); (try clear hi)) | (go_at_call 24; (with_reducible refine (pin_within.calls kj19 (t122.extract ((ji28) : Int).toNat t122.size) ((⟨#[48, 49, 50, 51, 52, 53, 54, 55, 56, 57, 65, 66, 67, 68, 69, 70]⟩ : ByteArray).extract 10 16) 0 14 true _ A36.out).mono ?_); rintro e w' ⟨rfl, ⟨nd, rfl⟩⟩))
                                    go_ret2
                                    exact ⟨by first | rfl | (simp [errW_none, errW_some] <;> rfl) | (simp only [← hji28]; first | rfl | (simp [errW_none, errW_some] <;> rfl)) | (simp [*, errW_none, errW_some] <;> rfl), by repeat (first | (with_reducible first | exact HB.out | apply below_alloc | apply pw_below_drewN | apply below_drew1) | exact HB.out)⟩
                                  · rw [if_neg c38] at H
                                    exact absurd H (by simp)
                                · replace c37 := Bool.eq_false_iff.mpr c37
                                  subst c37
                                  have H1 : (some ((⟨#[]⟩ : ByteArray), 60)) = some (r1, r2) := by rw [if_neg (show ¬ (false = true) by decide)] at H; exact H
                                  clear H
                                  have H := H1
                                  clear H1
                                  simp only [Option.some.injEq, Prod.mk.injEq] at H
                                  obtain ⟨rfl, rfl⟩ := H
                                  go_wp2_with (first | (go_at_call 29; (with_reducible refine (strings_Trim.calls (t122.extract ((ji28) : Int).toNat t122.size) (⟨#[70]⟩ : ByteArray) t124 _ A32.out).mono ?_); rintro e w41 ⟨rfl, hb⟩; have n0_ := Aside0.mk (below_step (by repeat (first | (with_reducible first | exact HB.out | apply below_alloc | apply pw_below_drewN | apply below_drew1) | exact HB.out)) hb); clear HB; have HB := n0_; clear n0_; (try clear hb); (try clear hb2); (try clear hk); (try clear hi)) | (go_at_call 24; (with_reducible refine (pin_within.calls kj19 (t122.extract ((ji28) : Int).toNat t122.size) ((⟨#[48, 49, 50, 51, 52, 53, 54, 55, 56, 57, 65, 66, 67, 68, 69, 70]⟩ : ByteArray).extract 10 16) 0 14 false _ A36.out).mono ?_); rintro e w' ⟨rfl, ⟨nd, rfl⟩⟩))
                                  go_ret2
                                  exact ⟨by first | rfl | (simp [errW_none, errW_some] <;> rfl) | (simp only [← hji28]; first | rfl | (simp [errW_none, errW_some] <;> rfl)) | (simp [*, errW_none, errW_some] <;> rfl), by repeat (first | (with_reducible first | exact HB.out | apply below_alloc | apply pw_below_drewN | apply below_drew1) | exact HB.out)⟩
                              · rw [if_neg c35] at H
                                exact absurd H (by simp)
                            · rw [if_neg c34] at H
                              have c34b0 : (a0 == 3) = false := beq_eq_false_iff_ne.mpr c34
                              have c34b1 : (a0 != 3) = true := bne_iff_ne.mpr c34
                              by_cases c42 : 2 ≤ (ji28)
                              · rw [if_pos c42] at H
                                have c42b0 := eq_true c42
                                have c42b1 : decide (2 ≤ (ji28)) = true := decide_eq_true c42
                                clear c42
                                have c43b0 := eq_true (of_decide_eq_true (by first | (with_reducible assumption) | assumption) : (ji28) ≤ (t122.size : Int))
                                simp only [Option.some.injEq, Prod.mk.injEq] at H
                                obtain ⟨rfl, rfl⟩ := H
                                go_wp2_with (first | (go_at_call 29; (with_reducible refine (strings_Trim.calls (t122.extract ((ji28) : Int).toNat t122.size) (⟨#[70]⟩ : ByteArray) t124 _ A32.out).mono ?_); rintro e w44 ⟨rfl, hb⟩; have n0_ := Aside0.mk (below_step (by repeat (first | (with_reducible first | exact HB.out | apply below_alloc | apply pw_below_drewN | apply below_drew1) | exact HB.out)) hb); clear HB; have HB := n0_; clear n0_; (try clear hb); (try clear hb2); (try clear hk); (try clear hi)))
                                go_ret2
                                exact ⟨by first | rfl | (simp [errW_none, errW_some] <;> rfl) | (simp only [← hji28]; first | rfl | (simp [errW_none, errW_some] <;> rfl)) | (simp [*, errW_none, errW_some] <;> rfl), by repeat (first | (with_reducible first | exact HB.out | apply below_alloc | apply pw_below_drewN | apply below_drew1) | exact HB.out)⟩
                              · rw [if_neg c42] at H
                                exact absurd H (by simp)
                          · rw [if_neg c33] at H
                            have c33b0 : (t124.toList == ([] : List UInt8)) = false := beq_eq_false_iff_ne.mpr c33
                            have c33b1 : (t124.toList != ([] : List UInt8)) = true := bne_iff_ne.mpr c33
                            simp only [Option.some.injEq, Prod.mk.injEq] at H
                            obtain ⟨rfl, rfl⟩ := H
                            go_wp2_with (first | (go_at_call 29; (with_reducible refine (strings_Trim.calls (t122.extract ((ji28) : Int).toNat t122.size) (⟨#[70]⟩ : ByteArray) t124 _ A32.out).mono ?_); rintro e w45 ⟨rfl, hb⟩; have n0_ := Aside0.mk (below_step (by repeat (first | (with_reducible first | exact HB.out | apply below_alloc | apply pw_below_drewN | apply below_drew1) | exact HB.out)) hb); clear HB; have HB := n0_; clear n0_; (try clear hb); (try clear hb2); (try clear hk); (try clear hi)))
                            go_ret2
                            exact ⟨by first | rfl | (simp [errW_none, errW_some] <;> rfl) | (simp only [← hji28]; first | rfl | (simp [errW_none, errW_some] <;> rfl)) | (simp [*, errW_none, errW_some] <;> rfl), by repeat (first | (with_reducible first | exact HB.out | apply below_alloc | apply pw_below_drewN | apply below_drew1) | exact HB.out)⟩
                        · rw [if_neg c31] at H
                          have c31b0 : (a0 == 0) = false := beq_eq_false_iff_ne.mpr c31
                          have c31b1 : (a0 != 0) = true := bne_iff_ne.mpr c31
                          by_cases c46 : a0 = 3
                          · rw [if_pos c46] at H
                            have c46b0 : (a0 == 3) = true := beq_iff_eq.mpr c46
                            have c46b1 : (a0 != 3) = false := bne_eq_false_iff_eq.mpr c46
                            clear c46
                            by_cases c47 : 10 ≤ 16
                            · rw [if_pos c47] at H
                              have c47b0 := eq_true c47
                              have c47b1 : decide (10 ≤ 16) = true := decide_eq_true c47
                              clear c47
                              replace H := Option.bind_eq_some_iff.mp H
                              obtain ⟨t126, A480, H⟩ := H
                              replace H : (if t126 = true then (if 2 ≤ (ji28) then (some (t122.extract 2 ((ji28) : Int).toNat, 0)) else (none)) else (some ((⟨#[]⟩ : ByteArray), 60))) = some (r1, r2) := H
                              have A48 := Aside0.mk A480
                              clear A480
                              by_cases c49 : t126 = true
                              · subst c49
                                have H1 : (if 2 ≤ (ji28) then (some (t122.extract 2 ((ji28) : Int).toNat, 0)) else (none)) = some (r1, r2) := by rw [if_pos rfl] at H; exact H
                                clear H
                                have H := H1
                                clear H1
                                by_cases c50 : 2 ≤ (ji28)
                                · rw [if_pos c50] at H
                                  have c50b0 := eq_true c50
                                  have c50b1 : decide (2 ≤ (ji28)) = true := decide_eq_true c50
                                  clear c50
                                  have c51b0 := eq_true (of_decide_eq_true (by first | (with_reducible assumption) | assumption) : (ji28) ≤ (t122.size : Int))
                                  simp only [Option.some.injEq, Prod.mk.injEq] at H
                                  obtain ⟨rfl, rfl⟩ := H
                                  go_wp2_with (first | (go_at_call 24; (with_reducible refine (pin_within.calls kj19 (t122.extract ((ji28) : Int).toNat t122.size) ((⟨#[48, 49, 50, 51, 52, 53, 54, 55, 56, 57, 65, 66, 67, 68, 69, 70]⟩ : ByteArray).extract 10 16) 0 14 true _ A48.out).mono ?_); rintro e w' ⟨rfl, ⟨nd, rfl⟩⟩))
                                  go_ret2
                                  exact ⟨by first | rfl | (simp [errW_none, errW_some] <;> rfl) | (simp only [← hji28]; first | rfl | (simp [errW_none, errW_some] <;> rfl)) | (simp [*, errW_none, errW_some] <;> rfl), by repeat (first | (with_reducible first | exact HB.out | apply below_alloc | apply pw_below_drewN | apply below_drew1) | exact HB.out)⟩
                                · rw [if_neg c50] at H
                                  exact absurd H (by simp)
                              · replace c49 := Bool.eq_false_iff.mpr c49
                                subst c49
                                have H1 : (some ((⟨#[]⟩ : ByteArray), 60)) = some (r1, r2) := by rw [if_neg (show ¬ (false = true) by decide)] at H; exact H
                                clear H
                                have H := H1
                                clear H1
                                simp only [Option.some.injEq, Prod.mk.injEq] at H
                                obtain ⟨rfl, rfl⟩ := H
                                go_wp2_with (first | (go_at_call 24; (with_reducible refine (pin_within.calls kj19 (t122.extract ((ji28) : Int).toNat t122.size) ((⟨#[48, 49, 50, 51, 52, 53, 54, 55, 56, 57, 65, 66, 67, 68, 69, 70]⟩ : ByteArray).extract 10 16) 0 14 false _ A48.out).mono ?_); rintro e w' ⟨rfl, ⟨nd, rfl⟩⟩))
                                go_ret2
                                exact ⟨by first | rfl | (simp [errW_none, errW_some] <;> rfl) | (simp only [← hji28]; first | rfl | (simp [errW_none, errW_some] <;> rfl)) | (simp [*, errW_none, errW_some] <;> rfl), by repeat (first | (with_reducible first | exact HB.out | apply below_alloc | apply pw_below_drewN | apply below_drew1) | exact HB.out)⟩
                            · rw [if_neg c47] at H
                              exact absurd H (by simp)
                          · rw [if_neg c46] at H
                            have c46b0 : (a0 == 3) = false := beq_eq_false_iff_ne.mpr c46
                            have c46b1 : (a0 != 3) = true := bne_iff_ne.mpr c46
                            by_cases c52 : 2 ≤ (ji28)
                            · rw [if_pos c52] at H
                              have c52b0 := eq_true c52
                              have c52b1 : decide (2 ≤ (ji28)) = true := decide_eq_true c52
                              clear c52
                              have c53b0 := eq_true (of_decide_eq_true (by first | (with_reducible assumption) | assumption) : (ji28) ≤ (t122.size : Int))
                              simp only [Option.some.injEq, Prod.mk.injEq] at H
                              obtain ⟨rfl, rfl⟩ := H
                              go_wp2
                              go_ret2
                              exact ⟨by first | rfl | (simp [errW_none, errW_some] <;> rfl) | (simp only [← hji28]; first | rfl | (simp [errW_none, errW_some] <;> rfl)) | (simp [*, errW_none, errW_some] <;> rfl), by repeat (first | (with_reducible first | exact HB.out | apply below_alloc | apply pw_below_drewN | apply below_drew1) | exact HB.out)⟩
                            · rw [if_neg c52] at H
                              exact absurd H (by simp)
                      · rw [if_neg c30] at H
                        exact absurd H (by simp)
                    · rw [if_neg c29] at H
                      exact absurd H (by simp)
            · rw [if_neg c18] at H
              exact absurd H (by simp)

end Go.Proofs.YtkjjdodnkcmeiaaGreatDoor.PX
