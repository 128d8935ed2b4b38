-- Written by px.py of this session, which runs the kit's print with given contracts. Not trusted: Lean checks it.
import Derived.Test.YtkjjdodnkcmeiaaDoorPX0
import Derived.Test.YtkjjdodnkcmeiaaDoorSeal
namespace Go.Proofs.YtkjjdodnkcmeiaaDoor.PX
open Go.RowKit Go.Proofs.YtkjjdodnkcmeiaaDoorW.PrintWords Go.Proofs.YtkjjdodnkcmeiaaDoorW.PrintLast Go.Proofs.YtkjjdodnkcmeiaaDoorW.PrintMore
attribute [local go_sem] max2_int min2_int max_two min_two max_three min_three max_four min_four   -- for this text's walks alone
set_option linter.unusedVariables false
set_option linter.unusedSimpArgs false

/-! ### pin_Move: function 26 -/
def pin_Move.j0 : Nat → ByteArray → ByteArray → Int → Int → ByteArray → ByteArray → ByteArray → Bool → Option (ByteArray × Int)
  | 0, _, _, _, _, _, _, _, _ => none
  | k + 1, x0, x1, x2, x3, x4, x5, x6, x25 => if x25 = true then (some ((⟨#[]⟩ : ByteArray), 30)) else ((pin_Unseal.f x0 x2 x4 x5).bind fun bt431 => (if bt431.2 = 0 then ((pin_Seal.f x1 x3 bt431.1 x5 x6).bind fun bt433 => (some (bt433.1, bt433.2))) else (some ((⟨#[]⟩ : ByteArray), bt431.2))))
def pin_Move.f (k : Nat) (a0 : ByteArray) (a1 : ByteArray) (a2 : Int) (a3 : Int) (a4 : ByteArray) (a5 : ByteArray) (a6 : ByteArray) : Option (ByteArray × Int) := if (a0.size : Int) = 16 then (pin_Move.j0 k a0 a1 a2 a3 a4 a5 a6 ((a1.size : Int) != 16)) else (pin_Move.j0 k a0 a1 a2 a3 a4 a5 a6 true)
theorem pin_Move.mono_l : ∀ k, (∀ y0 y1 y2 y3 y4 y5 y6 y7, LeO (pin_Move.j0 k y0 y1 y2 y3 y4 y5 y6 y7) (pin_Move.j0 (k + 1) y0 y1 y2 y3 y4 y5 y6 y7))
  | 0 => fun _ _ _ _ _ _ _ _ r h => by simp [pin_Move.j0] at h
  | k + 1 => by
    have ih0 := pin_Move.mono_l k
    · intro y0 y1 y2 y3 y4 y5 y6 y7
      unfold pin_Move.j0
      repeat' first
      | (with_reducible exact ih0 _ _ _ _ _ _ _ _)
      | (with_reducible exact LeO.refl _)
      | (with_reducible exact LeO.none _)
      | (with_reducible refine LeO.ite ?_ ?_)
      | (with_reducible refine LeO.bind ?_ (fun _ => ?_))
      | exact ih0 _ _ _ _ _ _ _ _
      | exact LeO.none _
      | refine LeO.ite ?_ ?_
      | refine LeO.bind ?_ (fun _ => ?_)
theorem pin_Move.mono : ∀ a0 a1 a2 a3 a4 a5 a6 k, LeO (pin_Move.f k a0 a1 a2 a3 a4 a5 a6) (pin_Move.f (k + 1) a0 a1 a2 a3 a4 a5 a6) := by
  intro a0 a1 a2 a3 a4 a5 a6 k
  have ih0 := pin_Move.mono_l k
  unfold pin_Move.f
  repeat' first
      | (with_reducible exact ih0 _ _ _ _ _ _ _ _)
      | (with_reducible exact LeO.refl _)
      | (with_reducible exact LeO.none _)
      | (with_reducible refine LeO.ite ?_ ?_)
      | (with_reducible refine LeO.bind ?_ (fun _ => ?_))
      | exact ih0 _ _ _ _ _ _ _ _
      | exact LeO.none _
      | refine LeO.ite ?_ ?_
      | refine LeO.bind ?_ (fun _ => ?_)
set_option maxHeartbeats 8000000 in
set_option maxRecDepth 100000 in
theorem pin_Move.calls (k : Nat) (a0 : ByteArray) (a1 : ByteArray) (a2 : Int) (a3 : Int) (a4 : ByteArray) (a5 : ByteArray) (a6 : ByteArray) (r1 : ByteArray) (r2 : Int) (w : World) (h : pin_Move.f k a0 a1 a2 a3 a4 a5 a6 = some (r1, r2)) :
    Calls Tryd.prog 26 #[.string a0, .string a1, .int .i64 a2, .int .i64 a3, .string a4, .string a5, .string a6] w fun e w' => e = .returned (.tuple #[.string r1, .int .i64 r2]) ∧ Below w.heap.size w w' := by
  have HB := Aside0.mk (Below.refl w.heap.size w)
  have H : (if (a0.size : Int) = 16 then (pin_Move.j0 k a0 a1 a2 a3 a4 a5 a6 ((a1.size : Int) != 16)) else (pin_Move.j0 k a0 a1 a2 a3 a4 a5 a6 true)) = some (r1, r2) := h
  clear h
  have HC8 := Aside0.mk H
  clear H
  go_enter Tryd.func26, Tryd.ntmps26
  go_upto_region 1 with (fail)
  go_cut [25] (fun v25 wc => ∃ (kq : Nat) (x25_7 : Bool), v25 = .bool x25_7 ∧ Aside0 (pin_Move.j0 kq a0 a1 a2 a3 a4 a5 a6 x25_7 = some (r1, r2)) ∧ Aside0 (kq ≤ k) ∧ Aside0 (Below w.heap.size w wc))
  case first =>
    have H := HC8.out
    clear HC8
    by_cases c9 : (a0.size : Int) = 16
    · rw [if_pos c9] at H
      have c9b0 : ((a0.size : Int) == 16) = true := beq_iff_eq.mpr c9
      have c9b1 : ((a0.size : Int) != 16) = false := bne_eq_false_iff_eq.mpr c9
      clear c9
      (first | rw [c9b0] | (simp only [i64_w, i32_w]; rw [c9b0]) | skip)
      have H' := Aside0.mk H
      clear H
      go_wp2
      go_meet
      case rel => exact ⟨_, (((a1.size : Int) != 16)), (by first | rfl | (simp; done) | (simp [*]; done)), H', ⟨by first | omega | exact Nat.le_refl _⟩, ⟨by repeat (first | (with_reducible first | exact HB.out | apply below_alloc | apply pw_below_drewN | apply below_drew1) | exact HB.out)⟩⟩
    · rw [if_neg c9] at H
      have c9b0 : ((a0.size : Int) == 16) = false := beq_eq_false_iff_ne.mpr c9
      have c9b1 : ((a0.size : Int) != 16) = true := bne_iff_ne.mpr c9
      (first | rw [c9b0] | (simp only [i64_w, i32_w]; rw [c9b0]) | skip)
      have H' := Aside0.mk H
      clear H
      go_wp2
      go_meet
      case rel => exact ⟨_, (true), (by first | rfl | (simp; done) | (simp [*]; done)), H', ⟨by first | omega | exact Nat.le_refl _⟩, ⟨by repeat (first | (with_reducible first | exact HB.out | apply below_alloc | apply pw_below_drewN | apply below_drew1) | exact HB.out)⟩⟩
  case rest =>
    clear HC8
    try clear c2
    try clear p2
    try clear c9
    try clear c9b0
    try clear c9b1
    obtain ⟨kq, x25_7, rfl, HA, HJ7, HB⟩ := hcut
    cases kq with
    | zero => exact absurd HA.out (by simp [pin_Move.j0])
    | succ kj7 =>
      have H := HA.out
      clear HA
      simp only [pin_Move.j0] at H
      by_cases c10 : x25_7 = true
      · subst c10
        have H1 : (some ((⟨#[]⟩ : ByteArray), 30)) = some (r1, r2) := by rw [if_pos rfl] at H; exact H
        clear H
        have H := H1
        clear H1
        simp only [Option.some.injEq, Prod.mk.injEq] at H
        obtain ⟨rfl, rfl⟩ := H
        go_wp2
        go_ret2
        exact ⟨by first | rfl | (simp [errW_none, errW_some] <;> rfl) | (simp [*, errW_none, errW_some] <;> rfl), by repeat (first | (with_reducible first | exact HB.out | apply below_alloc | apply pw_below_drewN | apply below_drew1) | exact HB.out)⟩
      · replace c10 := Bool.eq_false_iff.mpr c10
        subst c10
        have H1 : ((pin_Unseal.f a0 a2 a4 a5).bind fun bt431 => (if bt431.2 = 0 then ((pin_Seal.f a1 a3 bt431.1 a5 a6).bind fun bt433 => (some (bt433.1, bt433.2))) else (some ((⟨#[]⟩ : ByteArray), bt431.2)))) = some (r1, r2) := by rw [if_neg (show ¬ (false = true) by decide)] at H; exact H
        clear H
        have H := H1
        clear H1
        replace H := Option.bind_eq_some_iff.mp H
        obtain ⟨⟨t431, t432⟩, A110, H⟩ := H
        replace H : (if t432 = 0 then ((pin_Seal.f a1 a3 t431 a5 a6).bind fun bt433 => (some (bt433.1, bt433.2))) else (some ((⟨#[]⟩ : ByteArray), t432))) = some (r1, r2) := H
        have A11 := Aside0.mk A110
        clear A110
        by_cases c12 : t432 = 0
        · rw [if_pos c12] at H
          have c12b0 : (t432 == 0) = true := beq_iff_eq.mpr c12
          have c12b1 : (t432 != 0) = false := bne_eq_false_iff_eq.mpr c12
          clear c12
          replace H := Option.bind_eq_some_iff.mp H
          obtain ⟨⟨t433, t434⟩, A130, H⟩ := H
          replace H : (some (t433, t434)) = some (r1, r2) := H
          have A13 := Aside0.mk A130
          clear A130
          simp only [Option.some.injEq, Prod.mk.injEq] at H
          obtain ⟨rfl, rfl⟩ := H
          go_wp2_with (first | ((with_reducible refine gate_callee (f := 23) rfl ?_); refine goesL_ (some 31) rfl rfl Tryd.func23 (by kernel_rfl) rfl #[.string a0, .int .i64 a2, .string a4, .string a5] rfl (by (try simp only [List.map_toArray, List.map_cons, List.map_nil]); first | done | rfl | (simp only [List.length_drop, List.length_take]; rfl)) ?_; (with_reducible refine (pin_Unseal.calls a0 a2 a4 a5 t431 t432 _ A11.out).mono ?_); rintro e w14 ⟨rfl, hb⟩; refine ⟨_, rfl, ?_⟩; have n0_ := Aside0.mk (below_step (by repeat (first | (with_reducible first | exact HB.out | apply below_alloc | apply pw_below_drewN | apply below_drew1) | exact HB.out)) hb); clear HB; have HB := n0_; clear n0_; (try clear hb); (try clear hb2); (try clear hk); (try clear hi)) | ((with_reducible refine gate_callee (f := 22) rfl ?_); refine goesL_ (some 42) rfl rfl Tryd.func22 (by kernel_rfl) rfl #[.string a1, .int .i64 a3, .string t431, .string a5, .string a6] rfl (by (try simp only [List.map_toArray, List.map_cons, List.map_nil]); first | done | rfl | (simp only [List.length_drop, List.length_take]; rfl)) ?_; (with_reducible refine (pin_Seal.calls a1 a3 t431 a5 a6 t433 t434 _ A13.out).mono ?_); rintro e w15 ⟨rfl, hb⟩; refine ⟨_, rfl, ?_⟩; have n0_ := Aside0.mk (below_step (by repeat (first | (with_reducible first | exact HB.out | apply below_alloc | apply pw_below_drewN | apply below_drew1) | exact HB.out)) hb); clear HB; have HB := n0_; clear n0_; (try clear hb); (try clear hb2); (try clear hk); (try clear hi)))
          go_ret2
          exact ⟨by first | rfl | (simp [errW_none, errW_some] <;> rfl) | (simp [*, errW_none, errW_some] <;> rfl), by repeat (first | (with_reducible first | exact HB.out | apply below_alloc | apply pw_below_drewN | apply below_drew1) | exact HB.out)⟩
        · rw [if_neg c12] at H
          have c12b0 : (t432 == 0) = false := beq_eq_false_iff_ne.mpr c12
          have c12b1 : (t432 != 0) = true := bne_iff_ne.mpr c12
          simp only [Option.some.injEq, Prod.mk.injEq] at H
          obtain ⟨rfl, rfl⟩ := H
          go_wp2_with (first | ((with_reducible refine gate_callee (f := 23) rfl ?_); refine goesL_ (some 31) rfl rfl Tryd.func23 (by kernel_rfl) rfl #[.string a0, .int .i64 a2, .string a4, .string a5] rfl (by (try simp only [List.map_toArray, List.map_cons, List.map_nil]); first | done | rfl | (simp only [List.length_drop, List.length_take]; rfl)) ?_; (with_reducible refine (pin_Unseal.calls a0 a2 a4 a5 t431 t432 _ A11.out).mono ?_); rintro e w16 ⟨rfl, hb⟩; refine ⟨_, rfl, ?_⟩; have n0_ := Aside0.mk (below_step (by repeat (first | (with_reducible first | exact HB.out | apply below_alloc | apply pw_below_drewN | apply below_drew1) | exact HB.out)) hb); clear HB; have HB := n0_; clear n0_; (try clear hb); (try clear hb2); (try clear hk); (try clear hi)))
          go_ret2
          exact ⟨by first | rfl | (simp [errW_none, errW_some] <;> rfl) | (simp [*, errW_none, errW_some] <;> rfl), by repeat (first | (with_reducible first | exact HB.out | apply below_alloc | apply pw_below_drewN | apply below_drew1) | exact HB.out)⟩

end Go.Proofs.YtkjjdodnkcmeiaaDoor.PX
