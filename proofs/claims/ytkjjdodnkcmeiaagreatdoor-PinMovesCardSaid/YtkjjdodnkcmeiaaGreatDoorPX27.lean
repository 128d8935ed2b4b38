-- Written by px.py of this session, which runs the kit's print with given contracts. Not trusted: Lean checks it.
import Derived.Test.YtkjjdodnkcmeiaaGreatDoorPX0
import Derived.Test.YtkjjdodnkcmeiaaGreatDoorPX22
import Derived.Test.YtkjjdodnkcmeiaaGreatDoorPX25
import Derived.Test.YtkjjdodnkcmeiaaGreatDoorSeal
namespace Go.Proofs.YtkjjdodnkcmeiaaGreatDoor.PX
open Go.RowKit Go.Proofs.YtkjjdodnkcmeiaaGreatDoorW.PrintWords Go.Proofs.YtkjjdodnkcmeiaaGreatDoorW.PrintLast Go.Proofs.YtkjjdodnkcmeiaaGreatDoorW.PrintMore
attribute [local go_sem] max2_int min2_int max_two min_two max_three min_three max_four min_four   -- for this text's walks alone
set_option linter.unusedVariables false
set_option linter.unusedSimpArgs false

/-! ### pin_Move: function 10 -/
def pin_Move.j0 : Nat → ByteArray → ByteArray → Int → Int → ByteArray → ByteArray → ByteArray → Bool → Option (ByteArray × Int)
  | 0, _, _, _, _, _, _, _, _ => none
  | k + 1, x0, x1, x2, x3, x4, x5, x6, x25 => if x25 = true then (some ((⟨#[]⟩ : ByteArray), 30)) else ((pin_Unseal.f x0 x2 x4 x5).bind fun bt349 => (if bt349.2 = 0 then ((pin_Seal.f x1 x3 bt349.1 x5 x6).bind fun bt351 => (some (bt351.1, bt351.2))) else (some ((⟨#[]⟩ : ByteArray), bt349.2))))
def pin_Move.f (k : Nat) (a0 : ByteArray) (a1 : ByteArray) (a2 : Int) (a3 : Int) (a4 : ByteArray) (a5 : ByteArray) (a6 : ByteArray) : Option (ByteArray × Int) := if (a0.size : Int) = 16 then (pin_Move.j0 k a0 a1 a2 a3 a4 a5 a6 ((a1.size : Int) != 16)) else (pin_Move.j0 k a0 a1 a2 a3 a4 a5 a6 true)
set_option maxHeartbeats 8000000 in
set_option maxRecDepth 100000 in
theorem pin_Move.calls (k : Nat) (a0 : ByteArray) (a1 : ByteArray) (a2 : Int) (a3 : Int) (a4 : ByteArray) (a5 : ByteArray) (a6 : ByteArray) (r1 : ByteArray) (r2 : Int) (w : World) (h : pin_Move.f k a0 a1 a2 a3 a4 a5 a6 = some (r1, r2)) :
    Calls Tryz.prog 10 #[.string a0, .string a1, .int .i64 a2, .int .i64 a3, .string a4, .string a5, .string a6] w fun e w' => e = .returned (.tuple #[.string r1, .int .i64 r2]) ∧ Below w.heap.size w w' := by
  have HB := Aside0.mk (Below.refl w.heap.size w)
  have H : (if (a0.size : Int) = 16 then (pin_Move.j0 k a0 a1 a2 a3 a4 a5 a6 ((a1.size : Int) != 16)) else (pin_Move.j0 k a0 a1 a2 a3 a4 a5 a6 true)) = some (r1, r2) := h
  clear h
  have HC8 := Aside0.mk H
  clear H
  go_enter Tryz.func10, Tryz.ntmps10
  go_upto_region 1 with (fail)
  go_cut [25] (fun v25 wc => ∃ (kq : Nat) (x25_7 : Bool), v25 = .bool x25_7 ∧ Aside0 (pin_Move.j0 kq a0 a1 a2 a3 a4 a5 a6 x25_7 = some (r1, r2)) ∧ Aside0 (kq ≤ k) ∧ Aside0 (Below w.heap.size w wc))
  case first =>
    have H := HC8.out
    clear HC8
    by_cases c9 : (a0.size : Int) = 16
    · rw [if_pos c9] at H
      have c9b0 : ((a0.size : Int) == 16) = true := beq_iff_eq.mpr c9
      have c9b1 : ((a0.size : Int) != 16) = false := bne_eq_false_iff_eq.mpr c9
      clear c9
      (first | rw [c9b0] | (simp only [i64_w, i32_w]; rw [c9b0]) | skip)
      have H' := Aside0.mk H
      clear H
      go_wp2
      go_meet
      case rel => exact ⟨_, (((a1.size : Int) != 16)), (by first | rfl | (simp; done) | (simp [*]; done)), H', ⟨by first | omega | exact Nat.le_refl _⟩, ⟨by repeat (first | (with_reducible first | exact HB.out | apply below_alloc | apply pw_below_drewN | apply below_drew1) | exact HB.out)⟩⟩
    · rw [if_neg c9] at H
      have c9b0 : ((a0.size : Int) == 16) = false := beq_eq_false_iff_ne.mpr c9
      have c9b1 : ((a0.size : Int) != 16) = true := bne_iff_ne.mpr c9
      (first | rw [c9b0] | (simp only [i64_w, i32_w]; rw [c9b0]) | skip)
      have H' := Aside0.mk H
      clear H
      go_wp2
      go_meet
      case rel => exact ⟨_, (true), (by first | rfl | (simp; done) | (simp [*]; done)), H', ⟨by first | omega | exact Nat.le_refl _⟩, ⟨by repeat (first | (with_reducible first | exact HB.out | apply below_alloc | apply pw_below_drewN | apply below_drew1) | exact HB.out)⟩⟩
  case rest =>
    clear HC8
    try clear c1
    try clear p2
    try clear c9
    try clear c9b0
    try clear c9b1
    obtain ⟨kq, x25_7, rfl, HA, HJ7, HB⟩ := hcut
    cases kq with
    | zero => exact absurd HA.out (by simp [pin_Move.j0])
    | succ kj7 =>
      have H := HA.out
      clear HA
      simp only [pin_Move.j0] at H
      by_cases c10 : x25_7 = true
      · subst c10
        have H1 : (some ((⟨#[]⟩ : ByteArray), 30)) = some (r1, r2) := by rw [if_pos rfl] at H; exact H
        clear H
        have H := H1
        clear H1
        simp only [Option.some.injEq, Prod.mk.injEq] at H
        obtain ⟨rfl, rfl⟩ := H
        go_wp2
        go_ret2
        exact ⟨by first | rfl | (simp [errW_none, errW_some] <;> rfl) | (simp [*, errW_none, errW_some] <;> rfl), by repeat (first | (with_reducible first | exact HB.out | apply below_alloc | apply pw_below_drewN | apply below_drew1) | exact HB.out)⟩
      · replace c10 := Bool.eq_false_iff.mpr c10
        subst c10
        have H1 : ((pin_Unseal.f a0 a2 a4 a5).bind fun bt349 => (if bt349.2 = 0 then ((pin_Seal.f a1 a3 bt349.1 a5 a6).bind fun bt351 => (some (bt351.1, bt351.2))) else (some ((⟨#[]⟩ : ByteArray), bt349.2)))) = some (r1, r2) := by rw [if_neg (show ¬ (false = true) by decide)] at H; exact H
        clear H
        have H := H1
        clear H1
        replace H := Option.bind_eq_some_iff.mp H
        obtain ⟨⟨t349, t350⟩, A110, H⟩ := H
        replace H : (if t350 = 0 then ((pin_Seal.f a1 a3 t349 a5 a6).bind fun bt351 => (some (bt351.1, bt351.2))) else (some ((⟨#[]⟩ : ByteArray), t350))) = some (r1, r2) := H
        have A11 := Aside0.mk A110
        clear A110
        by_cases c12 : t350 = 0
        · rw [if_pos c12] at H
          have c12b0 : (t350 == 0) = true := beq_iff_eq.mpr c12
          have c12b1 : (t350 != 0) = false := bne_eq_false_iff_eq.mpr c12
          clear c12
          replace H := Option.bind_eq_some_iff.mp H
          obtain ⟨⟨t351, t352⟩, A130, H⟩ := H
          replace H : (some (t351, t352)) = some (r1, r2) := H
          have A13 := Aside0.mk A130
          clear A130
          simp only [Option.some.injEq, Prod.mk.injEq] at H
          obtain ⟨rfl, rfl⟩ := H
          go_wp2_with (first | ((with_reducible refine gate_callee (f := 8) rfl ?_); refine goesL_ (some 31) rfl rfl Tryz.func8 (by kernel_rfl) rfl #[.string a0, .int .i64 a2, .string a4, .string a5] rfl (by (try simp only [List.map_toArray, List.map_cons, List.map_nil]); first | done | rfl | (simp only [List.length_drop, List.length_take]; rfl)) ?_; (with_reducible refine (pin_Unseal.calls a0 a2 a4 a5 t349 t350 _ A11.out).mono ?_); rintro e w14 ⟨rfl, hb⟩; refine ⟨_, rfl, ?_⟩; have n0_ := Aside0.mk (below_step (by repeat (first | (with_reducible first | exact HB.out | apply below_alloc | apply pw_below_drewN | apply below_drew1) | exact HB.out)) hb); clear HB; have HB := n0_; clear n0_; (try clear hb); (try clear hb2); (try clear hk); (try clear hi)) | ((with_reducible refine gate_callee (f := 6) rfl ?_); refine goesL_ (some 42) rfl rfl Tryz.func6 (by kernel_rfl) rfl #[.string a1, .int .i64 a3, .string t349, .string a5, .string a6] rfl (by (try simp only [List.map_toArray, List.map_cons, List.map_nil]); first | done | rfl | (simp only [List.length_drop, List.length_take]; rfl)) ?_; (with_reducible refine (pin_Seal.calls a1 a3 t349 a5 a6 t351 t352 _ A13.out).mono ?_); rintro e w15 ⟨rfl, hb⟩; refine ⟨_, rfl, ?_⟩; have n0_ := Aside0.mk (below_step (by repeat (first | (with_reducible first | exact HB.out | apply below_alloc | apply pw_below_drewN | apply below_drew1) | exact HB.out)) hb); clear HB; have HB := n0_; clear n0_; (try clear hb); (try clear hb2); (try clear hk); (try clear hi)))
          go_ret2
          exact ⟨by first | rfl | (simp [errW_none, errW_some] <;> rfl) | (simp [*, errW_none, errW_some] <;> rfl), by repeat (first | (with_reducible first | exact HB.out | apply below_alloc | apply pw_below_drewN | apply below_drew1) | exact HB.out)⟩
        · rw [if_neg c12] at H
          have c12b0 : (t350 == 0) = false := beq_eq_false_iff_ne.mpr c12
          have c12b1 : (t350 != 0) = true := bne_iff_ne.mpr c12
          simp only [Option.some.injEq, Prod.mk.injEq] at H
          obtain ⟨rfl, rfl⟩ := H
          go_wp2_with (first | ((with_reducible refine gate_callee (f := 8) rfl ?_); refine goesL_ (some 31) rfl rfl Tryz.func8 (by kernel_rfl) rfl #[.string a0, .int .i64 a2, .string a4, .string a5] rfl (by (try simp only [List.map_toArray, List.map_cons, List.map_nil]); first | done | rfl | (simp only [List.length_drop, List.length_take]; rfl)) ?_; (with_reducible refine (pin_Unseal.calls a0 a2 a4 a5 t349 t350 _ A11.out).mono ?_); rintro e w16 ⟨rfl, hb⟩; refine ⟨_, rfl, ?_⟩; have n0_ := Aside0.mk (below_step (by repeat (first | (with_reducible first | exact HB.out | apply below_alloc | apply pw_below_drewN | apply below_drew1) | exact HB.out)) hb); clear HB; have HB := n0_; clear n0_; (try clear hb); (try clear hb2); (try clear hk); (try clear hi)))
          go_ret2
          exact ⟨by first | rfl | (simp [errW_none, errW_some] <;> rfl) | (simp [*, errW_none, errW_some] <;> rfl), by repeat (first | (with_reducible first | exact HB.out | apply below_alloc | apply pw_below_drewN | apply below_drew1) | exact HB.out)⟩

/-! ### turnstileref6_Move: function 11 -/
def turnstileref6_Move.j0 : Nat → ByteArray → ByteArray → Int → Int → ByteArray → ByteArray → ByteArray → Bool → Option (ByteArray × Int)
  | 0, _, _, _, _, _, _, _, _ => none
  | k + 1, x0, x1, x2, x3, x4, x5, x6, x25 => if x25 = true then (some ((⟨#[]⟩ : ByteArray), 30)) else ((turnstileref6_Unseal.f k x0 x2 x4 x5).bind fun bt353 => (if bt353.2 = 0 then ((turnstileref6_Seal.f k x1 x3 bt353.1 x5 x6).bind fun bt355 => (some (bt355.1, bt355.2))) else (some ((⟨#[]⟩ : ByteArray), bt353.2))))
def turnstileref6_Move.f (k : Nat) (a0 : ByteArray) (a1 : ByteArray) (a2 : Int) (a3 : Int) (a4 : ByteArray) (a5 : ByteArray) (a6 : ByteArray) : Option (ByteArray × Int) := if (a0.size : Int) = 16 then (turnstileref6_Move.j0 k a0 a1 a2 a3 a4 a5 a6 ((a1.size : Int) != 16)) else (turnstileref6_Move.j0 k a0 a1 a2 a3 a4 a5 a6 true)
set_option maxHeartbeats 8000000 in
set_option maxRecDepth 100000 in
theorem turnstileref6_Move.calls (k : Nat) (a0 : ByteArray) (a1 : ByteArray) (a2 : Int) (a3 : Int) (a4 : ByteArray) (a5 : ByteArray) (a6 : ByteArray) (r1 : ByteArray) (r2 : Int) (w : World) (h : turnstileref6_Move.f k a0 a1 a2 a3 a4 a5 a6 = some (r1, r2)) :
    Calls Tryz.prog 11 #[.string a0, .string a1, .int .i64 a2, .int .i64 a3, .string a4, .string a5, .string a6] w fun e w' => e = .returned (.tuple #[.string r1, .int .i64 r2]) ∧ Below w.heap.size w w' := by
  have HB := Aside0.mk (Below.refl w.heap.size w)
  have H : (if (a0.size : Int) = 16 then (turnstileref6_Move.j0 k a0 a1 a2 a3 a4 a5 a6 ((a1.size : Int) != 16)) else (turnstileref6_Move.j0 k a0 a1 a2 a3 a4 a5 a6 true)) = some (r1, r2) := h
  clear h
  have HC8 := Aside0.mk H
  clear H
  go_enter Tryz.func11, Tryz.ntmps11
  go_upto_region 1 with (fail)
  go_cut [25] (fun v25 wc => ∃ (kq : Nat) (x25_7 : Bool), v25 = .bool x25_7 ∧ Aside0 (turnstileref6_Move.j0 kq a0 a1 a2 a3 a4 a5 a6 x25_7 = some (r1, r2)) ∧ Aside0 (kq ≤ k) ∧ Aside0 (Below w.heap.size w wc))
  case first =>
    have H := HC8.out
    clear HC8
    by_cases c9 : (a0.size : Int) = 16
    · rw [if_pos c9] at H
      have c9b0 : ((a0.size : Int) == 16) = true := beq_iff_eq.mpr c9
      have c9b1 : ((a0.size : Int) != 16) = false := bne_eq_false_iff_eq.mpr c9
      clear c9
      (first | rw [c9b0] | (simp only [i64_w, i32_w]; rw [c9b0]) | skip)
      have H' := Aside0.mk H
      clear H
      go_wp2
      go_meet
      case rel => exact ⟨_, (((a1.size : Int) != 16)), (by first | rfl | (simp; done) | (simp [*]; done)), H', ⟨by first | omega | exact Nat.le_refl _⟩, ⟨by repeat (first | (with_reducible first | exact HB.out | apply below_alloc | apply pw_below_drewN | apply below_drew1) | exact HB.out)⟩⟩
    · rw [if_neg c9] at H
      have c9b0 : ((a0.size : Int) == 16) = false := beq_eq_false_iff_ne.mpr c9
      have c9b1 : ((a0.size : Int) != 16) = true := bne_iff_ne.mpr c9
      (first | rw [c9b0] | (simp only [i64_w, i32_w]; rw [c9b0]) | skip)
      have H' := Aside0.mk H
      clear H
      go_wp2
      go_meet
      case rel => exact ⟨_, (true), (by first | rfl | (simp; done) | (simp [*]; done)), H', ⟨by first | omega | exact Nat.le_refl _⟩, ⟨by repeat (first | (with_reducible first | exact HB.out | apply below_alloc | apply pw_below_drewN | apply below_drew1) | exact HB.out)⟩⟩
  case rest =>
    clear HC8
    try clear c1
    try clear p2
    try clear c9
    try clear c9b0
    try clear c9b1
    obtain ⟨kq, x25_7, rfl, HA, HJ7, HB⟩ := hcut
    cases kq with
    | zero => exact absurd HA.out (by simp [turnstileref6_Move.j0])
    | succ kj7 =>
      have H := HA.out
      clear HA
      simp only [turnstileref6_Move.j0] at H
      by_cases c10 : x25_7 = true
      · subst c10
        have H1 : (some ((⟨#[]⟩ : ByteArray), 30)) = some (r1, r2) := by rw [if_pos rfl] at H; exact H
        clear H
        have H := H1
        clear H1
        simp only [Option.some.injEq, Prod.mk.injEq] at H
        obtain ⟨rfl, rfl⟩ := H
        go_wp2
        go_ret2
        exact ⟨by first | rfl | (simp [errW_none, errW_some] <;> rfl) | (simp [*, errW_none, errW_some] <;> rfl), by repeat (first | (with_reducible first | exact HB.out | apply below_alloc | apply pw_below_drewN | apply below_drew1) | exact HB.out)⟩
      · replace c10 := Bool.eq_false_iff.mpr c10
        subst c10
        have H1 : ((turnstileref6_Unseal.f kj7 a0 a2 a4 a5).bind fun bt353 => (if bt353.2 = 0 then ((turnstileref6_Seal.f kj7 a1 a3 bt353.1 a5 a6).bind fun bt355 => (some (bt355.1, bt355.2))) else (some ((⟨#[]⟩ : ByteArray), bt353.2)))) = some (r1, r2) := by rw [if_neg (show ¬ (false = true) by decide)] at H; exact H
        clear H
        have H := H1
        clear H1
        replace H := Option.bind_eq_some_iff.mp H
        obtain ⟨⟨t353, t354⟩, A110, H⟩ := H
        replace H : (if t354 = 0 then ((turnstileref6_Seal.f kj7 a1 a3 t353 a5 a6).bind fun bt355 => (some (bt355.1, bt355.2))) else (some ((⟨#[]⟩ : ByteArray), t354))) = some (r1, r2) := H
        have A11 := Aside0.mk A110
        clear A110
        by_cases c12 : t354 = 0
        · rw [if_pos c12] at H
          have c12b0 : (t354 == 0) = true := beq_iff_eq.mpr c12
          have c12b1 : (t354 != 0) = false := bne_eq_false_iff_eq.mpr c12
          clear c12
          replace H := Option.bind_eq_some_iff.mp H
          obtain ⟨⟨t355, t356⟩, A130, H⟩ := H
          replace H : (some (t355, t356)) = some (r1, r2) := H
          have A13 := Aside0.mk A130
          clear A130
          simp only [Option.some.injEq, Prod.mk.injEq] at H
          obtain ⟨rfl, rfl⟩ := H
          go_wp2_with (first | ((with_reducible refine gate_callee (f := 9) rfl ?_); refine goesL_ (some 31) rfl rfl Tryz.func9 (by kernel_rfl) rfl #[.string a0, .int .i64 a2, .string a4, .string a5] rfl (by (try simp only [List.map_toArray, List.map_cons, List.map_nil]); first | done | rfl | (simp only [List.length_drop, List.length_take]; rfl)) ?_; (with_reducible refine (turnstileref6_Unseal.calls kj7 a0 a2 a4 a5 t353 t354 _ A11.out).mono ?_); rintro e w14 ⟨rfl, hb⟩; refine ⟨_, rfl, ?_⟩; have n0_ := Aside0.mk (below_step (by repeat (first | (with_reducible first | exact HB.out | apply below_alloc | apply pw_below_drewN | apply below_drew1) | exact HB.out)) hb); clear HB; have HB := n0_; clear n0_; (try clear hb); (try clear hb2); (try clear hk); (try clear hi)) | ((with_reducible refine gate_callee (f := 7) rfl ?_); refine goesL_ (some 42) rfl rfl Tryz.func7 (by kernel_rfl) rfl #[.string a1, .int .i64 a3, .string t353, .string a5, .string a6] rfl (by (try simp only [List.map_toArray, List.map_cons, List.map_nil]); first | done | rfl | (simp only [List.length_drop, List.length_take]; rfl)) ?_; (with_reducible refine (turnstileref6_Seal.calls kj7 a1 a3 t353 a5 a6 t355 t356 _ A13.out).mono ?_); rintro e w15 ⟨rfl, hb⟩; refine ⟨_, rfl, ?_⟩; have n0_ := Aside0.mk (below_step (by repeat (first | (with_reducible first | exact HB.out | apply below_alloc | apply pw_below_drewN | apply below_drew1) | exact HB.out)) hb); clear HB; have HB := n0_; clear n0_; (try clear hb); (try clear hb2); (try clear hk); (try clear hi)))
          go_ret2
          exact ⟨by first | rfl | (simp [errW_none, errW_some] <;> rfl) | (simp [*, errW_none, errW_some] <;> rfl), by repeat (first | (with_reducible first | exact HB.out | apply below_alloc | apply pw_below_drewN | apply below_drew1) | exact HB.out)⟩
        · rw [if_neg c12] at H
          have c12b0 : (t354 == 0) = false := beq_eq_false_iff_ne.mpr c12
          have c12b1 : (t354 != 0) = true := bne_iff_ne.mpr c12
          simp only [Option.some.injEq, Prod.mk.injEq] at H
          obtain ⟨rfl, rfl⟩ := H
          go_wp2_with (first | ((with_reducible refine gate_callee (f := 9) rfl ?_); refine goesL_ (some 31) rfl rfl Tryz.func9 (by kernel_rfl) rfl #[.string a0, .int .i64 a2, .string a4, .string a5] rfl (by (try simp only [List.map_toArray, List.map_cons, List.map_nil]); first | done | rfl | (simp only [List.length_drop, List.length_take]; rfl)) ?_; (with_reducible refine (turnstileref6_Unseal.calls kj7 a0 a2 a4 a5 t353 t354 _ A11.out).mono ?_); rintro e w16 ⟨rfl, hb⟩; refine ⟨_, rfl, ?_⟩; have n0_ := Aside0.mk (below_step (by repeat (first | (with_reducible first | exact HB.out | apply below_alloc | apply pw_below_drewN | apply below_drew1) | exact HB.out)) hb); clear HB; have HB := n0_; clear n0_; (try clear hb); (try clear hb2); (try clear hk); (try clear hi)))
          go_ret2
          exact ⟨by first | rfl | (simp [errW_none, errW_some] <;> rfl) | (simp [*, errW_none, errW_some] <;> rfl), by repeat (first | (with_reducible first | exact HB.out | apply below_alloc | apply pw_below_drewN | apply below_drew1) | exact HB.out)⟩

end Go.Proofs.YtkjjdodnkcmeiaaGreatDoor.PX
