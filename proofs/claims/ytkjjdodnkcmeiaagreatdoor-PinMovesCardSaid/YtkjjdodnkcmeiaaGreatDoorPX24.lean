-- Written by px.py of this session, which runs the kit's print with given contracts. Not trusted: Lean checks it.
import Derived.Test.YtkjjdodnkcmeiaaGreatDoorPX0
import Derived.Test.YtkjjdodnkcmeiaaGreatDoorPX10
import Derived.Test.YtkjjdodnkcmeiaaGreatDoorPX23
import Derived.Test.YtkjjdodnkcmeiaaGreatDoorPX8
namespace Go.Proofs.YtkjjdodnkcmeiaaGreatDoor.PX
open Go.RowKit Go.Proofs.YtkjjdodnkcmeiaaGreatDoorW.PrintWords Go.Proofs.YtkjjdodnkcmeiaaGreatDoorW.PrintLast Go.Proofs.YtkjjdodnkcmeiaaGreatDoorW.PrintMore
attribute [local go_sem] max2_int min2_int max_two min_two max_three min_three max_four min_four   -- for this text's walks alone
set_option linter.unusedVariables false
set_option linter.unusedSimpArgs false

/-! ### turnstileref6_Open: function 19 -/
mutual
def turnstileref6_Open.j0 : Nat → Int → ByteArray → ByteArray → Bool → Option (ByteArray × Int)
  | 0, _, _, _, _ => none
  | k + 1, x0, x1, x2, x30 => if x30 = true then (some ((⟨#[]⟩ : ByteArray), 61)) else ((turnstileref6_isPAN.f k x2).bind fun t316 => (if x0 = 1 then (turnstileref6_Open.j1 k x0 x1 x2 false) else (turnstileref6_Open.j1 k x0 x1 x2 (!t316))))
def turnstileref6_Open.j1 : Nat → Int → ByteArray → ByteArray → Bool → Option (ByteArray × Int)
  | 0, _, _, _, _ => none
  | k + 1, x0, x1, x2, x38 => if x38 = true then (some ((⟨#[]⟩ : ByteArray), 50)) else ((turnstileref6_halves.f k x1).bind fun t317 => ((turnstileref6_mixed.f k x0 t317 x2).bind fun t320 => (if 1 < (t320.length : Int) then (if (rd t320 1) < 4 then (turnstileref6_Open.j2 k x0 t320 (rd t320 1) true) else (turnstileref6_Open.j2 k x0 t320 (rd t320 1) (decide ((rd t320 1) > 12)))) else (none))))
def turnstileref6_Open.j2 : Nat → Int → List Int → Int → Bool → Option (ByteArray × Int)
  | 0, _, _, _, _ => none
  | k + 1, x0, x10, x11, x52 => if x52 = true then (some ((⟨#[]⟩ : ByteArray), 60)) else (turnstileref6_Open.l0 k x0 x10 x11 (⟨#[]⟩ : ByteArray) 2)
def turnstileref6_Open.l0 : Nat → Int → List Int → Int → ByteArray → Int → Option (ByteArray × Int)
  | 0, _, _, _, _, _ => none
  | k + 1, x0, x10, x11, x12, x13 => if x13 < 16 then (if x13 < (wrap64 (2 + x11)) then (if 0 ≤ x13 then (if x13 < (x10.length : Int) then (turnstileref6_Open.j4 k x0 x10 x11 x12 x13 (decide ((rd x10 x13) > 9))) else (none)) else (none)) else (turnstileref6_Open.j4 k x0 x10 x11 x12 x13 false)) else (some (x12, 0))
def turnstileref6_Open.j4 : Nat → Int → List Int → Int → ByteArray → Int → Bool → Option (ByteArray × Int)
  | 0, _, _, _, _, _, _ => none
  | k + 1, x0, x10, x11, x12, x13, x57 => if x57 = true then (turnstileref6_Open.j5 k x0 x10 x11 x12 x13 x57) else (if x13 ≥ (wrap64 (2 + x11)) then (if x0 = 0 then (if 0 ≤ x13 then (if x13 < (x10.length : Int) then (if (rd x10 x13) = 15 then (if x0 = 3 then (turnstileref6_Open.j5 k x0 x10 x11 x12 x13 (decide ((rd x10 x13) < 10))) else (turnstileref6_Open.j5 k x0 x10 x11 x12 x13 false)) else (turnstileref6_Open.j5 k x0 x10 x11 x12 x13 ((rd x10 x13) != 15))) else (none)) else (none)) else (if x0 = 3 then (if 0 ≤ x13 then (if x13 < (x10.length : Int) then (turnstileref6_Open.j5 k x0 x10 x11 x12 x13 (decide ((rd x10 x13) < 10))) else (none)) else (none)) else (turnstileref6_Open.j5 k x0 x10 x11 x12 x13 false))) else (turnstileref6_Open.j5 k x0 x10 x11 x12 x13 false))
def turnstileref6_Open.j5 : Nat → Int → List Int → Int → ByteArray → Int → Bool → Option (ByteArray × Int)
  | 0, _, _, _, _, _, _ => none
  | k + 1, x0, x10, x11, x12, x13, x57 => if x57 = true then (some ((⟨#[]⟩ : ByteArray), 60)) else (if x13 < (wrap64 (2 + x11)) then (if 0 ≤ x13 then (if x13 < (x10.length : Int) then ((some (([(wrap64 (48 + (rd x10 x13))) % 256] : List Int) : List Int)).bind fun y329 => (if x12.size + (strOfNums y329).size ≤ 9223372036854775807 then (turnstileref6_Open.l0 k x0 x10 x11 (x12 ++ (strOfNums y329)) (wrap64 (x13 + 1))) else (none))) else (none)) else (none)) else (turnstileref6_Open.l0 k x0 x10 x11 x12 (wrap64 (x13 + 1))))
end
def turnstileref6_Open.f (k : Nat) (a0 : Int) (a1 : ByteArray) (a2 : ByteArray) : Option (ByteArray × Int) := (turnstileref6_known.f a0).bind fun t315 => (if t315 = true then (if (a1.size : Int) = 8 then (if 0 < (a1.size : Int) then (turnstileref6_Open.j0 k a0 a1 a2 ((wrap64 (Int.tdiv (wrap64 (bt a1 0)) 16)) != a0)) else (none)) else (turnstileref6_Open.j0 k a0 a1 a2 true)) else (turnstileref6_Open.j0 k a0 a1 a2 true))
set_option maxHeartbeats 8000000 in
set_option maxRecDepth 100000 in
theorem turnstileref6_Open.calls (k : Nat) (a0 : Int) (a1 : ByteArray) (a2 : ByteArray) (r1 : ByteArray) (r2 : Int) (w : World) (h : turnstileref6_Open.f k a0 a1 a2 = some (r1, r2)) :
    Calls Tryz.prog 19 #[.int .i64 a0, .string a1, .string a2] w fun e w' => e = .returned (.tuple #[.string r1, .int .i64 r2]) ∧ Below w.heap.size w w' := by
  have HB := Aside0.mk (Below.refl w.heap.size w)
  have H : ((turnstileref6_known.f a0).bind fun t315 => (if t315 = true then (if (a1.size : Int) = 8 then (if 0 < (a1.size : Int) then (turnstileref6_Open.j0 k a0 a1 a2 ((wrap64 (Int.tdiv (wrap64 (bt a1 0)) 16)) != a0)) else (none)) else (turnstileref6_Open.j0 k a0 a1 a2 true)) else (turnstileref6_Open.j0 k a0 a1 a2 true))) = some (r1, r2) := h
  clear h
  replace H := Option.bind_eq_some_iff.mp H
  obtain ⟨t315, A40, H⟩ := H
  replace H : (if t315 = true then (if (a1.size : Int) = 8 then (if 0 < (a1.size : Int) then (turnstileref6_Open.j0 k a0 a1 a2 ((wrap64 (Int.tdiv (wrap64 (bt a1 0)) 16)) != a0)) else (none)) else (turnstileref6_Open.j0 k a0 a1 a2 true)) else (turnstileref6_Open.j0 k a0 a1 a2 true)) = some (r1, r2) := H
  have A4 := Aside0.mk A40
  clear A40
  have HC5 := Aside0.mk H
  clear H
  go_enter Tryz.func19, Tryz.ntmps19
  go_upto_region 2 with (first | ((with_reducible refine gate_callee (f := 34) rfl ?_); refine goesL_ (some 15) rfl rfl Tryz.func34 (by kernel_rfl) rfl #[.int .i64 a0] rfl (by (try simp only [List.map_toArray, List.map_cons, List.map_nil]); first | done | rfl | (simp only [List.length_drop, List.length_take]; rfl)) ?_; (with_reducible refine (turnstileref6_known.calls a0 t315 _ A4.out).mono ?_); rintro e w' ⟨rfl, ⟨nd, rfl⟩⟩; refine ⟨_, rfl, ?_⟩))
  (try simp only [Act.put, List.setIfInBounds_toArray, List.set_cons_zero, List.set_cons_succ])
  go_cut [30] (fun v30 wc => ∃ (kq : Nat) (x30_4 : Bool), v30 = .bool x30_4 ∧ Aside0 (turnstileref6_Open.j0 kq a0 a1 a2 x30_4 = some (r1, r2)) ∧ Aside0 (kq ≤ k) ∧ Aside0 (Below w.heap.size w wc))
  case first =>
    have H := HC5.out
    clear HC5
    by_cases c6 : t315 = true
    · subst c6
      have H1 : (if (a1.size : Int) = 8 then (if 0 < (a1.size : Int) then (turnstileref6_Open.j0 k a0 a1 a2 ((wrap64 (Int.tdiv (wrap64 (bt a1 0)) 16)) != a0)) else (none)) else (turnstileref6_Open.j0 k a0 a1 a2 true)) = some (r1, r2) := by rw [if_pos rfl] at H; exact H
      clear H
      have H := H1
      clear H1
      by_cases c7 : (a1.size : Int) = 8
      · rw [if_pos c7] at H
        have c7b0 : ((a1.size : Int) == 8) = true := beq_iff_eq.mpr c7
        have c7b1 : ((a1.size : Int) != 8) = false := bne_eq_false_iff_eq.mpr c7
        clear c7
        (first | rw [c7b0] | (simp only [i64_w, i32_w]; rw [c7b0]) | skip)
        by_cases c8 : 0 < (a1.size : Int)
        · rw [if_pos c8] at H
          have c8b0 : decide (0 < (a1.size : Int)) = true := decide_eq_true c8
          have c8b1 : decide (0 < a1.size) = true := decide_eq_true (by omega)
          clear c8
          have H' := Aside0.mk H
          clear H
          have p9 : 0 ≤ (0 : Int) := (by omega)
          have q9 : 0 < a1.size := (by have : (0 : Int) < (a1.size : Int) := of_decide_eq_true (by first | (with_reducible assumption) | assumption); omega)
          have hx9 : ∀ h : 0 < a1.size, ((a1[0]'h).toNat : Int) = bt a1 0 := bt_at a1 0
          clear p9
          have qi9 : (0 < (a1.size : Int)) = True := eq_true (of_decide_eq_true (by first | (with_reducible assumption) | assumption))
          replace q9 := eq_true q9
          go_wp2
          go_meet
          case rel => exact ⟨_, (((wrap64 (Int.tdiv (wrap64 (bt a1 0)) 16)) != a0)), (by first | rfl | (simp; done) | (simp [*]; done)), H', ⟨by first | omega | exact Nat.le_refl _⟩, ⟨by repeat (first | (with_reducible first | exact HB.out | apply below_alloc | apply pw_below_drewN | apply below_drew1) | exact HB.out)⟩⟩
        · rw [if_neg c8] at H
          exact absurd H (by simp)
      · rw [if_neg c7] at H
        have c7b0 : ((a1.size : Int) == 8) = false := beq_eq_false_iff_ne.mpr c7
        have c7b1 : ((a1.size : Int) != 8) = true := bne_iff_ne.mpr c7
        (first | rw [c7b0] | (simp only [i64_w, i32_w]; rw [c7b0]) | skip)
        have H' := Aside0.mk H
        clear H
        go_wp2
        go_meet
        case rel => exact ⟨_, (true), (by first | rfl | (simp; done) | (simp [*]; done)), H', ⟨by first | omega | exact Nat.le_refl _⟩, ⟨by repeat (first | (with_reducible first | exact HB.out | apply below_alloc | apply pw_below_drewN | apply below_drew1) | exact HB.out)⟩⟩
    · replace c6 := Bool.eq_false_iff.mpr c6
      subst c6
      have H1 : (turnstileref6_Open.j0 k a0 a1 a2 true) = some (r1, r2) := by rw [if_neg (show ¬ (false = true) by decide)] at H; exact H
      clear H
      have H := H1
      clear H1
      have H' := Aside0.mk H
      clear H
      go_wp2
      go_meet
      case rel => exact ⟨_, (true), (by first | rfl | (simp; done) | (simp [*]; done)), H', ⟨by first | omega | exact Nat.le_refl _⟩, ⟨by repeat (first | (with_reducible first | exact HB.out | apply below_alloc | apply pw_below_drewN | apply below_drew1) | exact HB.out)⟩⟩
  case rest =>
    clear HC5
    try clear c1
    try clear p2
    try clear c3
    try clear c6
    try clear p6
    try clear c7
    try clear c7b0
    try clear c7b1
    try clear c8
    try clear c8b0
    try clear c8b1
    try clear p9
    try clear q9
    try clear hx9
    try clear qi9
    try clear p9
    try clear q9
    obtain ⟨kq, x30_4, rfl, HA, HJ4, HB⟩ := hcut
    cases kq with
    | zero => exact absurd HA.out (by simp [turnstileref6_Open.j0])
    | succ kj4 =>
      have H := HA.out
      clear HA
      simp only [turnstileref6_Open.j0] at H
      by_cases c10 : x30_4 = true
      · subst c10
        have H1 : (some ((⟨#[]⟩ : ByteArray), 61)) = some (r1, r2) := by rw [if_pos rfl] at H; exact H
        clear H
        have H := H1
        clear H1
        simp only [Option.some.injEq, Prod.mk.injEq] at H
        obtain ⟨rfl, rfl⟩ := H
        go_wp2
        go_ret2
        exact ⟨by first | rfl | (simp [errW_none, errW_some] <;> rfl) | (simp [*, errW_none, errW_some] <;> rfl), by repeat (first | (with_reducible first | exact HB.out | apply below_alloc | apply pw_below_drewN | apply below_drew1) | exact HB.out)⟩
      · replace c10 := Bool.eq_false_iff.mpr c10
        subst c10
        have H1 : ((turnstileref6_isPAN.f kj4 a2).bind fun t316 => (if a0 = 1 then (turnstileref6_Open.j1 kj4 a0 a1 a2 false) else (turnstileref6_Open.j1 kj4 a0 a1 a2 (!t316)))) = some (r1, r2) := by rw [if_neg (show ¬ (false = true) by decide)] at H; exact H
        clear H
        have H := H1
        clear H1
        replace H := Option.bind_eq_some_iff.mp H
        obtain ⟨t316, A110, H⟩ := H
        replace H : (if a0 = 1 then (turnstileref6_Open.j1 kj4 a0 a1 a2 false) else (turnstileref6_Open.j1 kj4 a0 a1 a2 (!t316))) = some (r1, r2) := H
        have A11 := Aside0.mk A110
        clear A110
        have HC12 := Aside0.mk H
        clear H
        go_upto_region 5 with (first | ((with_reducible refine gate_callee (f := 36) rfl ?_); refine goesL_ (some 32) rfl rfl Tryz.func36 (by kernel_rfl) rfl #[.string a2] rfl (by (try simp only [List.map_toArray, List.map_cons, List.map_nil]); first | done | rfl | (simp only [List.length_drop, List.length_take]; rfl)) ?_; (with_reducible refine (turnstileref6_isPAN.calls kj4 a2 t316 _ A11.out).mono ?_); rintro e w' ⟨rfl, ⟨nd, rfl⟩⟩; refine ⟨_, rfl, ?_⟩))
        (try simp only [Act.put, List.setIfInBounds_toArray, List.set_cons_zero, List.set_cons_succ])
        go_cut [38] (fun v38 wc => ∃ (kq : Nat) (x38_11 : Bool), v38 = .bool x38_11 ∧ Aside0 (turnstileref6_Open.j1 kq a0 a1 a2 x38_11 = some (r1, r2)) ∧ Aside0 (kq ≤ kj4) ∧ Aside0 (Below w.heap.size w wc))
        case first =>
          have H := HC12.out
          clear HC12
          by_cases c13 : a0 = 1
          · rw [if_pos c13] at H
            have c13b0 : (a0 == 1) = true := beq_iff_eq.mpr c13
            have c13b1 : (a0 != 1) = false := bne_eq_false_iff_eq.mpr c13
            clear c13
            (first | rw [c13b0] | (simp only [i64_w, i32_w]; rw [c13b0]) | skip)
            have H' := Aside0.mk H
            clear H
            go_wp2
            go_meet
            case rel => exact ⟨_, (false), (by first | rfl | (simp; done) | (simp [*]; done)), H', ⟨by have := HJ4.out; first | omega | exact Nat.le_refl _⟩, ⟨by repeat (first | (with_reducible first | exact HB.out | apply below_alloc | apply pw_below_drewN | apply below_drew1) | exact HB.out)⟩⟩
          · rw [if_neg c13] at H
            have c13b0 : (a0 == 1) = false := beq_eq_false_iff_ne.mpr c13
            have c13b1 : (a0 != 1) = true := bne_iff_ne.mpr c13
            (first | rw [c13b0] | (simp only [i64_w, i32_w]; rw [c13b0]) | skip)
            have H' := Aside0.mk H
            clear H
            go_wp2
            go_meet
            case rel => exact ⟨_, (!t316), (by first | rfl | (simp; done) | (simp [*]; done)), H', ⟨by have := HJ4.out; first | omega | exact Nat.le_refl _⟩, ⟨by repeat (first | (with_reducible first | exact HB.out | apply below_alloc | apply pw_below_drewN | apply below_drew1) | exact HB.out)⟩⟩
        case rest =>
          clear HC12
          try clear c1
          try clear p2
          try clear c3
          try clear c6
          try clear p6
          try clear c7
          try clear c7b0
          try clear c7b1
          try clear c8
          try clear c8b0
          try clear c8b1
          try clear p9
          try clear q9
          try clear hx9
          try clear qi9
          try clear c10
          try clear c13
          try clear c13b0
          try clear c13b1
          try clear p2
          try clear p6
          try clear p9
          try clear q9
          obtain ⟨kq, x38_11, rfl, HA, HJ11, HB⟩ := hcut
          cases kq with
          | zero => exact absurd HA.out (by simp [turnstileref6_Open.j1])
          | succ kj11 =>
            have H := HA.out
            clear HA
            simp only [turnstileref6_Open.j1] at H
            by_cases c14 : x38_11 = true
            · subst c14
              have H1 : (some ((⟨#[]⟩ : ByteArray), 50)) = some (r1, r2) := by rw [if_pos rfl] at H; exact H
              clear H
              have H := H1
              clear H1
              simp only [Option.some.injEq, Prod.mk.injEq] at H
              obtain ⟨rfl, rfl⟩ := H
              go_wp2
              go_ret2
              exact ⟨by first | rfl | (simp [errW_none, errW_some] <;> rfl) | (simp [*, errW_none, errW_some] <;> rfl), by repeat (first | (with_reducible first | exact HB.out | apply below_alloc | apply pw_below_drewN | apply below_drew1) | exact HB.out)⟩
            · replace c14 := Bool.eq_false_iff.mpr c14
              subst c14
              have H1 : ((turnstileref6_halves.f kj11 a1).bind fun t317 => ((turnstileref6_mixed.f kj11 a0 t317 a2).bind fun t320 => (if 1 < (t320.length : Int) then (if (rd t320 1) < 4 then (turnstileref6_Open.j2 kj11 a0 t320 (rd t320 1) true) else (turnstileref6_Open.j2 kj11 a0 t320 (rd t320 1) (decide ((rd t320 1) > 12)))) else (none)))) = some (r1, r2) := by rw [if_neg (show ¬ (false = true) by decide)] at H; exact H
              clear H
              have H := H1
              clear H1
              replace H := Option.bind_eq_some_iff.mp H
              obtain ⟨t317, A150, H⟩ := H
              replace H : ((turnstileref6_mixed.f kj11 a0 t317 a2).bind fun t320 => (if 1 < (t320.length : Int) then (if (rd t320 1) < 4 then (turnstileref6_Open.j2 kj11 a0 t320 (rd t320 1) true) else (turnstileref6_Open.j2 kj11 a0 t320 (rd t320 1) (decide ((rd t320 1) > 12)))) else (none))) = some (r1, r2) := H
              have A15 := Aside0.mk A150
              clear A150
              replace H := Option.bind_eq_some_iff.mp H
              obtain ⟨t320, A160, H⟩ := H
              replace H : (if 1 < (t320.length : Int) then (if (rd t320 1) < 4 then (turnstileref6_Open.j2 kj11 a0 t320 (rd t320 1) true) else (turnstileref6_Open.j2 kj11 a0 t320 (rd t320 1) (decide ((rd t320 1) > 12)))) else (none)) = some (r1, r2) := H
              have A16 := Aside0.mk A160
              clear A160
              by_cases c17 : 1 < (t320.length : Int)
              · rw [if_pos c17] at H
                have c17b0 : decide (1 < (t320.length : Int)) = true := decide_eq_true c17
                have c17b1 : decide (1 < t320.length) = true := decide_eq_true (by omega)
                clear c17
                have HC18 := Aside0.mk H
                clear H
                go_upto_region 9 with (first | ((with_reducible refine gate_callee (f := 43) rfl ?_); refine goesL_ (some 41) rfl rfl Tryz.func43 (by kernel_rfl) rfl #[.string a1] rfl (by (try simp only [List.map_toArray, List.map_cons, List.map_nil]); first | done | rfl | (simp only [List.length_drop, List.length_take]; rfl)) ?_; (with_reducible refine (turnstileref6_halves.calls kj11 a1 t317 _ A15.out).mono ?_); rintro e w19 ⟨v318, rfl, ho0, hb⟩; refine ⟨_, rfl, ?_⟩; have n0_ := Aside0.mk (Kd.R_lower ho0 (below_size (by repeat (first | (with_reducible first | exact HB.out | apply below_alloc | apply pw_below_drewN | apply below_drew1) | exact HB.out)))); have n1_ := Aside0.mk (below_step (by repeat (first | (with_reducible first | exact HB.out | apply below_alloc | apply pw_below_drewN | apply below_drew1) | exact HB.out)) hb); clear HB; have HO319 := n0_; have HB := n1_; clear n0_ n1_; (try clear hb); (try clear hb2); (try clear hk); (try clear hi); (try clear ho0); obtain ⟨Ao20, co20, eo20⟩ := Kd.R_slice HO319.out; subst eo20) | ((with_reducible refine gate_callee (f := 40) rfl ?_); refine goesL_ (some 43) rfl rfl Tryz.func40 (by kernel_rfl) rfl #[.int .i64 a0, .slice Ao20 t317.length co20, .string a2] rfl (by (try simp only [List.map_toArray, List.map_cons, List.map_nil]); first | done | rfl | (simp only [List.length_drop, List.length_take]; rfl)) ?_; (with_reducible refine (turnstileref6_mixed.calls kj11 a0 (fun k_ => some k_ = (.slice Ao20 t317.length co20 : Value).ownBlock) (.slice Ao20 t317.length co20) t317 a2 t320 w _ ?side1 ?side2 A16.out).mono ?_); (case side1 => repeat (first | (with_reducible first | exact HB.out | apply below_alloc | apply pw_below_drewN | apply below_drew1) | exact HB.out)); (case side2 => exact Kd.R_tight rfl HO319.out); rintro e w21 ⟨v321, rfl, ho0, hb, hkp⟩; refine ⟨_, rfl, ?_⟩; have n0_ := Aside0.mk (Kd.R_mono (ok' := fun k_ => True) ho0 (fun k_ hk_ => trivial)); have n1_ := Aside0.mk (hb); clear HB; clear HO319; have HO322 := n0_; have HB := n1_; clear n0_ n1_; (try clear hb); (try clear hkp); (try clear ho0); obtain ⟨Ao22, co22, eo22⟩ := Kd.R_slice HO322.out; subst eo22; have p323 : 0 ≤ (1 : Int) := (by omega); have q323 : 1 < (t320.length : Int) := of_decide_eq_true (by first | (with_reducible assumption) | assumption); obtain ⟨ad323, e323, hx323_0⟩ := Kd.at_int (Kd.R_reads' HO322.out).2.2 1 p323 q323; cases e323; (try simp only [show (1 : Int).toNat = 1 from rfl, Nat.reduceMul, Nat.reduceEqDiff, Go.Addr.add, ↓reduceIte] at hx323_0); have qi323 : (1 < t320.length) = True := eq_true (by omega); (try rw [show ((1 : Int)).toNat = 1 from rfl] at hx323_0); replace p323 := eq_true p323; replace q323 := eq_true q323))
                (try simp only [Act.put, List.setIfInBounds_toArray, List.set_cons_zero, List.set_cons_succ])
                go_cut [52] (fun v52 wc => ∃ (kq : Nat) (x52_17 : Bool), v52 = .bool x52_17 ∧ Aside0 (turnstileref6_Open.j2 kq a0 t320 (rd t320 1) x52_17 = some (r1, r2)) ∧ Aside0 (kq ≤ kj11) ∧ Aside0 (Kd.R (Kd.int .i64) 3 wc w.heap.size (fun _ => True) (.slice (some ad323) t320.length co22) t320) ∧ Aside0 (Below w.heap.size w wc))
                case first =>
                  have H := HC18.out
                  clear HC18
                  by_cases c23 : (rd t320 1) < 4
                  · rw [if_pos c23] at H
                    have c23b0 : decide ((rd t320 1) < 4) = true := decide_eq_true c23
                    clear c23
                    (first | rw [c23b0] | (simp only [i64_w, i32_w]; rw [c23b0]) | skip)
                    have H' := Aside0.mk H
                    clear H
                    go_wp2
                    go_meet
                    case rel => exact ⟨_, (true), (by first | rfl | (simp; done) | (simp [*]; done)), H', ⟨by have := HJ4.out; have := HJ11.out; first | omega | exact Nat.le_refl _⟩, ⟨by (with_reducible repeat (first | apply Kd.R_alloc | apply Kd.R_drewN | apply Kd.R_drew)); exact HO322.out⟩, ⟨by repeat (first | (with_reducible first | exact HB.out | apply below_alloc | apply pw_below_drewN | apply below_drew1) | exact HB.out)⟩⟩
                  · rw [if_neg c23] at H
                    have c23b0 : decide ((rd t320 1) < 4) = false := decide_eq_false c23
                    clear c23
                    (first | rw [c23b0] | (simp only [i64_w, i32_w]; rw [c23b0]) | skip)
                    have H' := Aside0.mk H
                    clear H
                    go_wp2
                    go_meet
                    case rel => exact ⟨_, (decide ((rd t320 1) > 12)), (by first | rfl | (simp; done) | (simp [*]; done)), H', ⟨by have := HJ4.out; have := HJ11.out; first | omega | exact Nat.le_refl _⟩, ⟨by (with_reducible repeat (first | apply Kd.R_alloc | apply Kd.R_drewN | apply Kd.R_drew)); exact HO322.out⟩, ⟨by repeat (first | (with_reducible first | exact HB.out | apply below_alloc | apply pw_below_drewN | apply below_drew1) | exact HB.out)⟩⟩
                case rest =>
                  clear HC18
                  try clear c1
                  try clear c2
                  try clear p2
                  try clear c3
                  try clear p3
                  try clear q3
                  try clear hx3
                  try clear qi3
                  try clear c4
                  try clear c6
                  try clear p6
                  try clear c7
                  try clear c7b0
                  try clear c7b1
                  try clear c8
                  try clear c8b0
                  try clear c8b1
                  try clear p9
                  try clear q9
                  try clear hx9
                  try clear qi9
                  try clear c10
                  try clear c13
                  try clear c13b0
                  try clear c13b1
                  try clear c14
                  try clear c17
                  try clear c17b0
                  try clear c17b1
                  try clear c19
                  try clear c23
                  try clear c23b0
                  try clear hx323_0
                  try clear p2
                  try clear p323
                  try clear p6
                  try clear p9
                  try clear q323
                  try clear q9
                  obtain ⟨kq, x52_17, rfl, HA, HJ17, HO_10, HB⟩ := hcut
                  cases kq with
                  | zero => exact absurd HA.out (by simp [turnstileref6_Open.j2])
                  | succ kj17 =>
                    have H := HA.out
                    clear HA
                    simp only [turnstileref6_Open.j2] at H
                    by_cases c24 : x52_17 = true
                    · subst c24
                      have H1 : (some ((⟨#[]⟩ : ByteArray), 60)) = some (r1, r2) := by rw [if_pos rfl] at H; exact H
                      clear H
                      have H := H1
                      clear H1
                      simp only [Option.some.injEq, Prod.mk.injEq] at H
                      obtain ⟨rfl, rfl⟩ := H
                      go_wp2
                      go_ret2
                      exact ⟨by first | rfl | (simp [errW_none, errW_some] <;> rfl) | (simp [*, errW_none, errW_some] <;> rfl), by repeat (first | (with_reducible first | exact HB.out | apply below_alloc | apply pw_below_drewN | apply below_drew1) | exact HB.out)⟩
                    · replace c24 := Bool.eq_false_iff.mpr c24
                      subst c24
                      have H1 : (turnstileref6_Open.l0 kj17 a0 t320 (rd t320 1) (⟨#[]⟩ : ByteArray) 2) = some (r1, r2) := by rw [if_neg (show ¬ (false = true) by decide)] at H; exact H
                      clear H
                      have H := H1
                      clear H1
                      have H' := Aside0.mk H
                      clear H
                      go_wp2
                      go_loopg [12, 13] kj17 (fun kq v12 v13 w' => ∃ (x12_4 : ByteArray) (x13_4 : Int), v12 = .string x12_4 ∧ v13 = .int .i64 x13_4 ∧ Aside0 (turnstileref6_Open.l0 kq a0 t320 (rd t320 1) x12_4 x13_4 = some (r1, r2)) ∧ Aside0 (kq ≤ kj17) ∧ Aside0 (Kd.R (Kd.int .i64) 3 w' w.heap.size (fun _ => True) (.slice (some ad323) t320.length co22) t320) ∧ Aside0 (Below w.heap.size w w'))
                      case atStart => exact ⟨((⟨#[]⟩ : ByteArray)), (2), (by first | rfl | (simp; done) | (simp [*]; done)), (by first | rfl | (simp; done) | (simp [*]; done)), H', ⟨Nat.le_refl _⟩, ⟨by (with_reducible repeat (first | apply Kd.R_alloc | apply Kd.R_drewN | apply Kd.R_drew)); exact HO_10.out⟩, ⟨by repeat (first | (with_reducible first | exact HB.out | apply below_alloc | apply pw_below_drewN | apply below_drew1) | exact HB.out)⟩⟩
                      case round =>
                        clear H'
                        try clear c1
                        try clear c2
                        try clear p2
                        try clear c3
                        try clear p3
                        try clear q3
                        try clear hx3
                        try clear qi3
                        try clear c4
                        try clear c6
                        try clear p6
                        try clear c7
                        try clear c7b0
                        try clear c7b1
                        try clear c8
                        try clear c8b0
                        try clear c8b1
                        try clear p9
                        try clear q9
                        try clear hx9
                        try clear qi9
                        try clear c10
                        try clear c13
                        try clear c13b0
                        try clear c13b1
                        try clear c14
                        try clear c17
                        try clear c17b0
                        try clear c17b1
                        try clear c19
                        try clear c23
                        try clear c23b0
                        try clear c24
                        try clear hx323_0
                        try clear p2
                        try clear p3
                        try clear p323
                        try clear p6
                        try clear p9
                        try clear q3
                        try clear q323
                        try clear q9
                        obtain ⟨x12_4, x13_4, rfl, rfl, HA, HK4, HO_10, HB⟩ := hrel
                        cases gk with
                        | zero => exact absurd HA.out (by simp [turnstileref6_Open.l0])
                        | succ k4 =>
                          have H := HA.out
                          clear HA
                          simp only [turnstileref6_Open.l0] at H
                          by_cases c25 : x13_4 < 16
                          · rw [if_pos c25] at H
                            have c25b0 : decide (x13_4 < 16) = true := decide_eq_true c25
                            clear c25
                            have HC26 := Aside0.mk H
                            clear H
                            go_upto_region 15 with (fail)
                            go_cut [57] (fun v57 wc => ∃ (kq : Nat) (x57_25 : Bool), v57 = .bool x57_25 ∧ Aside0 (turnstileref6_Open.j4 kq a0 t320 (rd t320 1) x12_4 x13_4 x57_25 = some (r1, r2)) ∧ Aside0 (kq ≤ k4) ∧ Aside0 (Kd.R (Kd.int .i64) 3 wc w.heap.size (fun _ => True) (.slice (some ad323) t320.length co22) t320) ∧ Aside0 (Below w.heap.size w wc))
                            case first =>
                              have H := HC26.out
                              clear HC26
                              by_cases c27 : x13_4 < (wrap64 (2 + (rd t320 1)))
                              · rw [if_pos c27] at H
                                have c27b0 : decide (x13_4 < (wrap64 (2 + (rd t320 1)))) = true := decide_eq_true c27
                                clear c27
                                (first | rw [c27b0] | (simp only [i64_w, i32_w]; rw [c27b0]) | skip)
                                by_cases c28 : 0 ≤ x13_4
                                · rw [if_pos c28] at H
                                  have c28b0 : decide (0 ≤ x13_4) = true := decide_eq_true c28
                                  clear c28
                                  by_cases c29 : x13_4 < (t320.length : Int)
                                  · rw [if_pos c29] at H
                                    have c29b0 : decide (x13_4 < (t320.length : Int)) = true := decide_eq_true c29
                                    clear c29
                                    have H' := Aside0.mk H
                                    clear H
                                    have p324 : 0 ≤ (x13_4 : Int) := of_decide_eq_true (by first | (with_reducible assumption) | assumption)
                                    have q324 : x13_4 < (t320.length : Int) := of_decide_eq_true (by first | (with_reducible assumption) | assumption)
                                    obtain ⟨ad324, e324, hx324_0⟩ := Kd.at_int (Kd.R_reads' HO_10.out).2.2 x13_4 p324 q324
                                    obtain rfl : ad323 = ad324 := (by injection e324)
                                    replace p324 := eq_true p324
                                    replace q324 := eq_true q324
                                    go_wp2
                                    go_meet
                                    case rel => exact ⟨_, (decide ((rd t320 x13_4) > 9)), (by first | rfl | (simp; done) | (simp [*]; done)), H', ⟨by have := HJ4.out; have := HJ11.out; have := HJ17.out; have := HK4.out; first | omega | exact Nat.le_refl _⟩, ⟨by (with_reducible repeat (first | apply Kd.R_alloc | apply Kd.R_drewN | apply Kd.R_drew)); exact HO_10.out⟩, ⟨by repeat (first | (with_reducible first | exact HB.out | apply below_alloc | apply pw_below_drewN | apply below_drew1) | exact HB.out)⟩⟩
                                  · rw [if_neg c29] at H
                                    exact absurd H (by simp)
                                · rw [if_neg c28] at H
                                  exact absurd H (by simp)
                              · rw [if_neg c27] at H
                                have c27b0 : decide (x13_4 < (wrap64 (2 + (rd t320 1)))) = false := decide_eq_false c27
                                clear c27
                                (first | rw [c27b0] | (simp only [i64_w, i32_w]; rw [c27b0]) | skip)
                                have H' := Aside0.mk H
                                clear H
                                go_wp2
                                go_meet
                                case rel => exact ⟨_, (false), (by first | rfl | (simp; done) | (simp [*]; done)), H', ⟨by have := HJ4.out; have := HJ11.out; have := HJ17.out; have := HK4.out; first | omega | exact Nat.le_refl _⟩, ⟨by (with_reducible repeat (first | apply Kd.R_alloc | apply Kd.R_drewN | apply Kd.R_drew)); exact HO_10.out⟩, ⟨by repeat (first | (with_reducible first | exact HB.out | apply below_alloc | apply pw_below_drewN | apply below_drew1) | exact HB.out)⟩⟩
                            case rest =>
                              clear HC26
                              try clear c1
                              try clear c2
                              try clear p2
                              try clear c3
                              try clear p3
                              try clear q3
                              try clear hx3
                              try clear qi3
                              try clear c4
                              try clear c6
                              try clear p6
                              try clear c7
                              try clear c7b0
                              try clear c7b1
                              try clear c8
                              try clear c8b0
                              try clear c8b1
                              try clear p9
                              try clear q9
                              try clear hx9
                              try clear qi9
                              try clear c10
                              try clear c13
                              try clear c13b0
                              try clear c13b1
                              try clear c14
                              try clear c17
                              try clear c17b0
                              try clear c17b1
                              try clear c19
                              try clear c23
                              try clear c23b0
                              try clear c24
                              try clear c25
                              try clear c25b0
                              try clear c27
                              try clear c27b0
                              try clear c28
                              try clear c28b0
                              try clear c29
                              try clear c29b0
                              try clear hx323_0
                              try clear hx324_0
                              try clear p2
                              try clear p3
                              try clear p323
                              try clear p324
                              try clear p6
                              try clear p9
                              try clear q3
                              try clear q323
                              try clear q324
                              try clear q9
                              obtain ⟨kq, x57_25, rfl, HA, HJ25, HO_10, HB⟩ := hcut
                              cases kq with
                              | zero => exact absurd HA.out (by simp [turnstileref6_Open.j4])
                              | succ kj25 =>
                                have H := HA.out
                                clear HA
                                simp only [turnstileref6_Open.j4] at H
                                have HC30 := Aside0.mk H
                                clear H
                                go_upto_if 57 with (fail)
                                go_cut [57] (fun v57 wc => ∃ (kq : Nat) (x57_29 : Bool), v57 = .bool x57_29 ∧ Aside0 (turnstileref6_Open.j5 kq a0 t320 (rd t320 1) x12_4 x13_4 x57_29 = some (r1, r2)) ∧ Aside0 (kq ≤ kj25) ∧ Aside0 (Kd.R (Kd.int .i64) 3 wc w.heap.size (fun _ => True) (.slice (some ad323) t320.length co22) t320) ∧ Aside0 (Below w.heap.size w wc))
                                case first =>
                                  have H := HC30.out
                                  clear HC30
                                  by_cases c31 : x57_25 = true
                                  · subst c31
                                    have H1 : (turnstileref6_Open.j5 kj25 a0 t320 (rd t320 1) x12_4 x13_4 true) = some (r1, r2) := by rw [if_pos rfl] at H; exact H
                                    clear H
                                    have H := H1
                                    clear H1
                                    have H' := Aside0.mk H
                                    clear H
                                    go_wp2
                                    go_meet
                                    case rel => exact ⟨_, (true), (by first | rfl | (simp; done) | (simp [*]; done)), H', ⟨by have := HJ4.out; have := HJ11.out; have := HJ17.out; have := HK4.out; have := HJ25.out; first | omega | exact Nat.le_refl _⟩, ⟨by (with_reducible repeat (first | apply Kd.R_alloc | apply Kd.R_drewN | apply Kd.R_drew)); exact HO_10.out⟩, ⟨by repeat (first | (with_reducible first | exact HB.out | apply below_alloc | apply pw_below_drewN | apply below_drew1) | exact HB.out)⟩⟩
                                  · replace c31 := Bool.eq_false_iff.mpr c31
                                    subst c31
                                    have H1 : (if x13_4 ≥ (wrap64 (2 + (rd t320 1))) then (if a0 = 0 then (if 0 ≤ x13_4 then (if x13_4 < (t320.length : Int) then (if (rd t320 x13_4) = 15 then (if a0 = 3 then (turnstileref6_Open.j5 kj25 a0 t320 (rd t320 1) x12_4 x13_4 (decide ((rd t320 x13_4) < 10))) else (turnstileref6_Open.j5 kj25 a0 t320 (rd t320 1) x12_4 x13_4 false)) else (turnstileref6_Open.j5 kj25 a0 t320 (rd t320 1) x12_4 x13_4 ((rd t320 x13_4) != 15))) else (none)) else (none)) else (if a0 = 3 then (if 0 ≤ x13_4 then (if x13_4 < (t320.length : Int) then (turnstileref6_Open.j5 kj25 a0 t320 (rd t320 1) x12_4 x13_4 (decide ((rd t320 x13_4) < 10))) else (none)) else (none)) else (turnstileref6_Open.j5 kj25 a0 t320 (rd t320 1) x12_4 x13_4 false))) else (turnstileref6_Open.j5 kj25 a0 t320 (rd t320 1) x12_4 x13_4 false)) = some (r1, r2) := by rw [if_neg (show ¬ (false = true) by decide)] at H; exact H
                                    clear H
                                    have H := H1
                                    clear H1
                                    by_cases c32 : x13_4 ≥ (wrap64 (2 + (rd t320 1)))
                                    · rw [if_pos c32] at H
                                      have c32b0 : decide ((wrap64 (2 + (rd t320 1))) ≤ x13_4) = true := decide_eq_true c32
                                      clear c32
                                      (first | rw [c32b0] | (simp only [i64_w, i32_w]; rw [c32b0]) | skip)
                                      by_cases c33 : a0 = 0
                                      · rw [if_pos c33] at H
                                        have c33b0 : (a0 == 0) = true := beq_iff_eq.mpr c33
                                        have c33b1 : (a0 != 0) = false := bne_eq_false_iff_eq.mpr c33
                                        clear c33
                                        by_cases c34 : 0 ≤ x13_4
                                        · rw [if_pos c34] at H
                                          have c34b0 : decide (0 ≤ x13_4) = true := decide_eq_true c34
                                          clear c34
                                          by_cases c35 : x13_4 < (t320.length : Int)
                                          · rw [if_pos c35] at H
                                            have c35b0 : decide (x13_4 < (t320.length : Int)) = true := decide_eq_true c35
                                            clear c35
                                            by_cases c36 : (rd t320 x13_4) = 15
                                            · rw [if_pos c36] at H
                                              have c36b0 : ((rd t320 x13_4) == 15) = true := beq_iff_eq.mpr c36
                                              have c36b1 : ((rd t320 x13_4) != 15) = false := bne_eq_false_iff_eq.mpr c36
                                              clear c36
                                              by_cases c37 : a0 = 3
                                              · rw [if_pos c37] at H
                                                have c37b0 : (a0 == 3) = true := beq_iff_eq.mpr c37
                                                have c37b1 : (a0 != 3) = false := bne_eq_false_iff_eq.mpr c37
                                                clear c37
                                                have H' := Aside0.mk H
                                                clear H
                                                have p325 : 0 ≤ (x13_4 : Int) := of_decide_eq_true (by first | (with_reducible assumption) | assumption)
                                                have q325 : x13_4 < (t320.length : Int) := of_decide_eq_true (by first | (with_reducible assumption) | assumption)
                                                obtain ⟨ad325, e325, hx325_0⟩ := Kd.at_int (Kd.R_reads' HO_10.out).2.2 x13_4 p325 q325
                                                obtain rfl : ad323 = ad325 := (by injection e325)
                                                replace p325 := eq_true p325
                                                replace q325 := eq_true q325
                                                have p326 : 0 ≤ (x13_4 : Int) := of_decide_eq_true (by first | (with_reducible assumption) | assumption)
                                                have q326 : x13_4 < (t320.length : Int) := of_decide_eq_true (by first | (with_reducible assumption) | assumption)
                                                obtain ⟨ad326, e326, hx326_0⟩ := Kd.at_int (Kd.R_reads' HO_10.out).2.2 x13_4 p326 q326
                                                obtain rfl : ad323 = ad326 := (by injection e326)
                                                replace p326 := eq_true p326
                                                replace q326 := eq_true q326
                                                go_wp2
                                                go_meet
                                                case rel => exact ⟨_, (decide ((rd t320 x13_4) < 10)), (by first | rfl | (simp; done) | (simp [*]; done)), H', ⟨by have := HJ4.out; have := HJ11.out; have := HJ17.out; have := HK4.out; have := HJ25.out; first | omega | exact Nat.le_refl _⟩, ⟨by (with_reducible repeat (first | apply Kd.R_alloc | apply Kd.R_drewN | apply Kd.R_drew)); exact HO_10.out⟩, ⟨by repeat (first | (with_reducible first | exact HB.out | apply below_alloc | apply pw_below_drewN | apply below_drew1) | exact HB.out)⟩⟩
                                              · rw [if_neg c37] at H
                                                have c37b0 : (a0 == 3) = false := beq_eq_false_iff_ne.mpr c37
                                                have c37b1 : (a0 != 3) = true := bne_iff_ne.mpr c37
                                                have H' := Aside0.mk H
                                                clear H
                                                have p325 : 0 ≤ (x13_4 : Int) := of_decide_eq_true (by first | (with_reducible assumption) | assumption)
                                                have q325 : x13_4 < (t320.length : Int) := of_decide_eq_true (by first | (with_reducible assumption) | assumption)
                                                obtain ⟨ad325, e325, hx325_0⟩ := Kd.at_int (Kd.R_reads' HO_10.out).2.2 x13_4 p325 q325
                                                obtain rfl : ad323 = ad325 := (by injection e325)
                                                replace p325 := eq_true p325
                                                replace q325 := eq_true q325
                                                go_wp2
                                                go_meet
                                                case rel => exact ⟨_, (false), (by first | rfl | (simp; done) | (simp [*]; done)), H', ⟨by have := HJ4.out; have := HJ11.out; have := HJ17.out; have := HK4.out; have := HJ25.out; first | omega | exact Nat.le_refl _⟩, ⟨by (with_reducible repeat (first | apply Kd.R_alloc | apply Kd.R_drewN | apply Kd.R_drew)); exact HO_10.out⟩, ⟨by repeat (first | (with_reducible first | exact HB.out | apply below_alloc | apply pw_below_drewN | apply below_drew1) | exact HB.out)⟩⟩
                                            · rw [if_neg c36] at H
                                              have c36b0 : ((rd t320 x13_4) == 15) = false := beq_eq_false_iff_ne.mpr c36
                                              have c36b1 : ((rd t320 x13_4) != 15) = true := bne_iff_ne.mpr c36
                                              have H' := Aside0.mk H
                                              clear H
                                              have p325 : 0 ≤ (x13_4 : Int) := of_decide_eq_true (by first | (with_reducible assumption) | assumption)
                                              have q325 : x13_4 < (t320.length : Int) := of_decide_eq_true (by first | (with_reducible assumption) | assumption)
                                              obtain ⟨ad325, e325, hx325_0⟩ := Kd.at_int (Kd.R_reads' HO_10.out).2.2 x13_4 p325 q325
                                              obtain rfl : ad323 = ad325 := (by injection e325)
                                              replace p325 := eq_true p325
                                              replace q325 := eq_true q325
                                              go_wp2
                                              go_meet
                                              case rel => exact ⟨_, (((rd t320 x13_4) != 15)), (by first | rfl | (simp; done) | (simp [*]; done)), H', ⟨by have := HJ4.out; have := HJ11.out; have := HJ17.out; have := HK4.out; have := HJ25.out; first | omega | exact Nat.le_refl _⟩, ⟨by (with_reducible repeat (first | apply Kd.R_alloc | apply Kd.R_drewN | apply Kd.R_drew)); exact HO_10.out⟩, ⟨by repeat (first | (with_reducible first | exact HB.out | apply below_alloc | apply pw_below_drewN | apply below_drew1) | exact HB.out)⟩⟩
                                          · rw [if_neg c35] at H
                                            exact absurd H (by simp)
                                        · rw [if_neg c34] at H
                                          exact absurd H (by simp)
                                      · rw [if_neg c33] at H
                                        have c33b0 : (a0 == 0) = false := beq_eq_false_iff_ne.mpr c33
                                        have c33b1 : (a0 != 0) = true := bne_iff_ne.mpr c33
                                        by_cases c38 : a0 = 3
                                        · rw [if_pos c38] at H
                                          have c38b0 : (a0 == 3) = true := beq_iff_eq.mpr c38
                                          have c38b1 : (a0 != 3) = false := bne_eq_false_iff_eq.mpr c38
                                          clear c38
                                          by_cases c39 : 0 ≤ x13_4
                                          · rw [if_pos c39] at H
                                            have c39b0 : decide (0 ≤ x13_4) = true := decide_eq_true c39
                                            clear c39
                                            by_cases c40 : x13_4 < (t320.length : Int)
                                            · rw [if_pos c40] at H
                                              have c40b0 : decide (x13_4 < (t320.length : Int)) = true := decide_eq_true c40
                                              clear c40
                                              have H' := Aside0.mk H
                                              clear H
                                              have p327 : 0 ≤ (x13_4 : Int) := of_decide_eq_true (by first | (with_reducible assumption) | assumption)
                                              have q327 : x13_4 < (t320.length : Int) := of_decide_eq_true (by first | (with_reducible assumption) | assumption)
                                              obtain ⟨ad327, e327, hx327_0⟩ := Kd.at_int (Kd.R_reads' HO_10.out).2.2 x13_4 p327 q327
                                              obtain rfl : ad323 = ad327 := (by injection e327)
                                              replace p327 := eq_true p327
                                              replace q327 := eq_true q327
                                              go_wp2
                                              go_meet
                                              case rel => exact ⟨_, (decide ((rd t320 x13_4) < 10)), (by first | rfl | (simp; done) | (simp [*]; done)), H', ⟨by have := HJ4.out; have := HJ11.out; have := HJ17.out; have := HK4.out; have := HJ25.out; first | omega | exact Nat.le_refl _⟩, ⟨by (with_reducible repeat (first | apply Kd.R_alloc | apply Kd.R_drewN | apply Kd.R_drew)); exact HO_10.out⟩, ⟨by repeat (first | (with_reducible first | exact HB.out | apply below_alloc | apply pw_below_drewN | apply below_drew1) | exact HB.out)⟩⟩
                                            · rw [if_neg c40] at H
                                              exact absurd H (by simp)
                                          · rw [if_neg c39] at H
                                            exact absurd H (by simp)
                                        · rw [if_neg c38] at H
                                          have c38b0 : (a0 == 3) = false := beq_eq_false_iff_ne.mpr c38
                                          have c38b1 : (a0 != 3) = true := bne_iff_ne.mpr c38
                                          have H' := Aside0.mk H
                                          clear H
                                          go_wp2
                                          go_meet
                                          case rel => exact ⟨_, (false), (by first | rfl | (simp; done) | (simp [*]; done)), H', ⟨by have := HJ4.out; have := HJ11.out; have := HJ17.out; have := HK4.out; have := HJ25.out; first | omega | exact Nat.le_refl _⟩, ⟨by (with_reducible repeat (first | apply Kd.R_alloc | apply Kd.R_drewN | apply Kd.R_drew)); exact HO_10.out⟩, ⟨by repeat (first | (with_reducible first | exact HB.out | apply below_alloc | apply pw_below_drewN | apply below_drew1) | exact HB.out)⟩⟩
                                    · rw [if_neg c32] at H
                                      have c32b0 : decide ((wrap64 (2 + (rd t320 1))) ≤ x13_4) = false := decide_eq_false c32
                                      clear c32
                                      (first | rw [c32b0] | (simp only [i64_w, i32_w]; rw [c32b0]) | skip)
                                      have H' := Aside0.mk H
                                      clear H
                                      go_wp2
                                      go_meet
                                      case rel => exact ⟨_, (false), (by first | rfl | (simp; done) | (simp [*]; done)), H', ⟨by have := HJ4.out; have := HJ11.out; have := HJ17.out; have := HK4.out; have := HJ25.out; first | omega | exact Nat.le_refl _⟩, ⟨by (with_reducible repeat (first | apply Kd.R_alloc | apply Kd.R_drewN | apply Kd.R_drew)); exact HO_10.out⟩, ⟨by repeat (first | (with_reducible first | exact HB.out | apply below_alloc | apply pw_below_drewN | apply below_drew1) | exact HB.out)⟩⟩
                                case rest =>
                                  clear HC30
                                  try clear c1
                                  try clear c2
                                  try clear p2
                                  try clear c3
                                  try clear p3
                                  try clear q3
                                  try clear hx3
                                  try clear qi3
                                  try clear c4
                                  try clear c6
                                  try clear p6
                                  try clear c7
                                  try clear c7b0
                                  try clear c7b1
                                  try clear c8
                                  try clear c8b0
                                  try clear c8b1
                                  try clear p9
                                  try clear q9
                                  try clear hx9
                                  try clear qi9
                                  try clear c10
                                  try clear c13
                                  try clear c13b0
                                  try clear c13b1
                                  try clear c14
                                  try clear c17
                                  try clear c17b0
                                  try clear c17b1
                                  try clear c19
                                  try clear c23
                                  try clear c23b0
                                  try clear c24
                                  try clear c25
                                  try clear c25b0
                                  try clear c27
                                  try clear c27b0
                                  try clear c28
                                  try clear c28b0
                                  try clear c29
                                  try clear c29b0
                                  try clear c31
                                  try clear c32
                                  try clear c32b0
                                  try clear p32
                                  try clear q32
                                  try clear hx32
                                  try clear qi32
                                  try clear c33
                                  try clear c33b0
                                  try clear c33b1
                                  try clear c34
                                  try clear c34b0
                                  try clear c35
                                  try clear c35b0
                                  try clear c36
                                  try clear c36b0
                                  try clear c36b1
                                  try clear c37
                                  try clear c37b0
                                  try clear c37b1
                                  try clear c38
                                  try clear c38b0
                                  try clear c38b1
                                  try clear c39
                                  try clear c39b0
                                  try clear c40
                                  try clear c40b0
                                  try clear hx323_0
                                  try clear hx324_0
                                  try clear hx325_0
                                  try clear hx326_0
                                  try clear hx327_0
                                  try clear p2
                                  try clear p3
                                  try clear p323
                                  try clear p324
                                  try clear p325
                                  try clear p326
                                  try clear p327
                                  try clear p6
                                  try clear p9
                                  try clear q3
                                  try clear q323
                                  try clear q324
                                  try clear q325
                                  try clear q326
                                  try clear q327
                                  try clear q9
                                  obtain ⟨kq, x57_29, rfl, HA, HJ29, HO_10, HB⟩ := hcut
                                  cases kq with
                                  | zero => exact absurd HA.out (by simp [turnstileref6_Open.j5])
                                  | succ kj29 =>
                                    have H := HA.out
                                    clear HA
                                    simp only [turnstileref6_Open.j5] at H
                                    by_cases c41 : x57_29 = true
                                    · subst c41
                                      have H1 : (some ((⟨#[]⟩ : ByteArray), 60)) = some (r1, r2) := by rw [if_pos rfl] at H; exact H
                                      clear H
                                      have H := H1
                                      clear H1
                                      simp only [Option.some.injEq, Prod.mk.injEq] at H
                                      obtain ⟨rfl, rfl⟩ := H
                                      go_wp2
                                      go_ret2
                                      exact ⟨by first | rfl | (simp [errW_none, errW_some] <;> rfl) | (simp [*, errW_none, errW_some] <;> rfl), by repeat (first | (with_reducible first | exact HB.out | apply below_alloc | apply pw_below_drewN | apply below_drew1) | exact HB.out)⟩
                                    · replace c41 := Bool.eq_false_iff.mpr c41
                                      subst c41
                                      have H1 : (if x13_4 < (wrap64 (2 + (rd t320 1))) then (if 0 ≤ x13_4 then (if x13_4 < (t320.length : Int) then ((some (([(wrap64 (48 + (rd t320 x13_4))) % 256] : List Int) : List Int)).bind fun y329 => (if x12_4.size + (strOfNums y329).size ≤ 9223372036854775807 then (turnstileref6_Open.l0 kj29 a0 t320 (rd t320 1) (x12_4 ++ (strOfNums y329)) (wrap64 (x13_4 + 1))) else (none))) else (none)) else (none)) else (turnstileref6_Open.l0 kj29 a0 t320 (rd t320 1) x12_4 (wrap64 (x13_4 + 1)))) = some (r1, r2) := by rw [if_neg (show ¬ (false = true) by decide)] at H; exact H
                                      clear H
                                      have H := H1
                                      clear H1
                                      by_cases c42 : x13_4 < (wrap64 (2 + (rd t320 1)))
                                      · rw [if_pos c42] at H
                                        have c42b0 : decide (x13_4 < (wrap64 (2 + (rd t320 1)))) = true := decide_eq_true c42
                                        clear c42
                                        by_cases c43 : 0 ≤ x13_4
                                        · rw [if_pos c43] at H
                                          have c43b0 : decide (0 ≤ x13_4) = true := decide_eq_true c43
                                          clear c43
                                          by_cases c44 : x13_4 < (t320.length : Int)
                                          · rw [if_pos c44] at H
                                            have c44b0 : decide (x13_4 < (t320.length : Int)) = true := decide_eq_true c44
                                            clear c44
                                            obtain ⟨y329, hy329⟩ : ∃ y_ : List Int, y_ = (([(wrap64 (48 + (rd t320 x13_4))) % 256] : List Int)) := ⟨_, rfl⟩
                                            replace H : (if x12_4.size + (strOfNums y329).size ≤ 9223372036854775807 then (turnstileref6_Open.l0 kj29 a0 t320 (rd t320 1) (x12_4 ++ (strOfNums y329)) (wrap64 (x13_4 + 1))) else (none)) = some (r1, r2) := by first | (rw [hy329]; with_reducible exact H) | (have H2_ := (Option.bind_some _ _).symm.trans H; rw [hy329]; with_reducible exact H2_) | (have H2_ := (Option.bind_some _ _).symm.trans H; with_reducible exact H2_) | with_reducible exact H | (rw [hy329]; exact H) | exact H
                                            have Ny329 := Aside0.mk hy329
                                            clear hy329
                                            by_cases c45 : x12_4.size + (strOfNums y329).size ≤ 9223372036854775807
                                            · rw [if_pos c45] at H
                                              have c45b0 := eq_true c45
                                              have c45b1 : decide (x12_4.size + (strOfNums y329).size ≤ 9223372036854775807) = true := decide_eq_true c45
                                              try have c45b2 : (9223372036854775807 < x12_4.size + (strOfNums y329).size) = False := eq_false (Nat.not_lt.2 c45)
                                              have H' := Aside0.mk H
                                              clear H
                                              have p328 : 0 ≤ (x13_4 : Int) := of_decide_eq_true (by first | (with_reducible assumption) | assumption)
                                              have q328 : x13_4 < (t320.length : Int) := of_decide_eq_true (by first | (with_reducible assumption) | assumption)
                                              obtain ⟨ad328, e328, hx328_0⟩ := Kd.at_int (Kd.R_reads' HO_10.out).2.2 x13_4 p328 q328
                                              obtain rfl : ad323 = ad328 := (by injection e328)
                                              replace p328 := eq_true p328
                                              replace q328 := eq_true q328
                                              go_wp2_with (first | ((with_reducible refine gate_dst (N := 111) rfl ?_); (try (refine gate_guard (by rfl) ?_; dsimp only)); refine Kd.R_lit (Kd.int .u8) _ 5 ?hg (N := 111) ?hd (xs := ([(wrap64 (48 + (rd t320 x13_4))) % 256] : List Int)) (inner := [.int .u8 ((wrap64 (48 + (rd t320 x13_4))) % 256)]) (ok := fun _ => True) (okp := fun _ => True) ?hr ?hp (fun _ hk => hk) trivial (Below.refl _ _) (Nat.le_refl _) (by simp) ?_; (case hd => rfl); (case hg => rfl); (case hr => first | (go_simp; done) | (go_simp; rfl)); (case hp => exact (Reps.one (show Kd.M (Kd.int .u8) _ _ _ ((wrap64 (48 + (rd t320 x13_4))) % 256) [.int .u8 ((wrap64 (48 + (rd t320 x13_4))) % 256)] from rfl) (Reps.none _ _))); intro v330 w46 ho47 hb hg_ hnew_; clear hg_ hnew_; (first | rw [← Ny329.out] at ho47 | (simp only [Int.reduceToNat] at ho47; rw [← Ny329.out] at ho47)); have n0_ := Aside0.mk (Kd.R_below (by (with_reducible repeat (first | apply Kd.R_alloc | apply Kd.R_drewN | apply Kd.R_drew)); exact HO_10.out) hb); have n1_ := Aside0.mk (Kd.R_lower ho47 (below_size (by repeat (first | (with_reducible first | exact HB.out | apply below_alloc | apply pw_below_drewN | apply below_drew1) | exact HB.out)))); have n2_ := Aside0.mk (below_step (by repeat (first | (with_reducible first | exact HB.out | apply below_alloc | apply pw_below_drewN | apply below_drew1) | exact HB.out)) hb); clear HO_10; clear HB; have HO_10 := n0_; have HO331 := n1_; have HB := n2_; clear n0_ n1_ n2_; clear hb ho47; have hcv48 := own_string (P := Tryz.prog) Tryz.underlying65 Tryz.underlying5 Tryz.underlying9 (Kd.own_of_R HO331.out)))
                                              go_roundg kj29
                                              case measure => have := HJ4.out; have := HJ11.out; have := HJ17.out; have := HK4.out; have := HJ25.out; have := HJ29.out; omega
                                              case rel => exact ⟨(x12_4 ++ (strOfNums y329)), (wrap64 (x13_4 + 1)), (by first | rfl | (simp; done) | (simp [*]; done)), (by first | rfl | (simp; done) | (simp [*]; done)), H', ⟨by have := HJ4.out; have := HJ11.out; have := HJ17.out; have := HK4.out; have := HJ25.out; have := HJ29.out; omega⟩, ⟨by (with_reducible repeat (first | apply Kd.R_alloc | apply Kd.R_drewN | apply Kd.R_drew)); exact HO_10.out⟩, ⟨by repeat (first | (with_reducible first | exact HB.out | apply below_alloc | apply pw_below_drewN | apply below_drew1) | exact HB.out)⟩⟩
                                            · rw [if_neg c45] at H
                                              exact absurd H (by simp)
                                          · rw [if_neg c44] at H
                                            exact absurd H (by simp)
                                        · rw [if_neg c43] at H
                                          exact absurd H (by simp)
                                      · rw [if_neg c42] at H
                                        have c42b0 : decide (x13_4 < (wrap64 (2 + (rd t320 1)))) = false := decide_eq_false c42
                                        clear c42
                                        have H' := Aside0.mk H
                                        clear H
                                        go_wp2
                                        go_roundg kj29
                                        case measure => have := HJ4.out; have := HJ11.out; have := HJ17.out; have := HK4.out; have := HJ25.out; have := HJ29.out; omega
                                        case rel => exact ⟨(x12_4), (wrap64 (x13_4 + 1)), (by first | rfl | (simp; done) | (simp [*]; done)), (by first | rfl | (simp; done) | (simp [*]; done)), H', ⟨by have := HJ4.out; have := HJ11.out; have := HJ17.out; have := HK4.out; have := HJ25.out; have := HJ29.out; omega⟩, ⟨by (with_reducible repeat (first | apply Kd.R_alloc | apply Kd.R_drewN | apply Kd.R_drew)); exact HO_10.out⟩, ⟨by repeat (first | (with_reducible first | exact HB.out | apply below_alloc | apply pw_below_drewN | apply below_drew1) | exact HB.out)⟩⟩
                          · rw [if_neg c25] at H
                            have c25b0 : decide (x13_4 < 16) = false := decide_eq_false c25
                            clear c25
                            simp only [Option.some.injEq, Prod.mk.injEq] at H
                            obtain ⟨rfl, rfl⟩ := H
                            go_wp2
                            go_ret2
                            exact ⟨by first | rfl | (simp [errW_none, errW_some] <;> rfl) | (simp [*, errW_none, errW_some] <;> rfl), by repeat (first | (with_reducible first | exact HB.out | apply below_alloc | apply pw_below_drewN | apply below_drew1) | exact HB.out)⟩
              · rw [if_neg c17] at H
                exact absurd H (by simp)

end Go.Proofs.YtkjjdodnkcmeiaaGreatDoor.PX
