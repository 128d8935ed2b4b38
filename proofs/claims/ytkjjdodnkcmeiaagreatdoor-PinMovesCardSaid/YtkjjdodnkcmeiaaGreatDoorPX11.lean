-- Written by px.py of this session, which runs the kit's print with given contracts. Not trusted: Lean checks it.
import Derived.Test.YtkjjdodnkcmeiaaGreatDoorPX0
import Derived.Test.YtkjjdodnkcmeiaaGreatDoorPX10
import Derived.Test.YtkjjdodnkcmeiaaGreatDoorPX8
import Derived.Test.YtkjjdodnkcmeiaaGreatDoorPX9
namespace Go.Proofs.YtkjjdodnkcmeiaaGreatDoor.PX
open Go.RowKit Go.Proofs.YtkjjdodnkcmeiaaGreatDoorW.PrintWords Go.Proofs.YtkjjdodnkcmeiaaGreatDoorW.PrintLast Go.Proofs.YtkjjdodnkcmeiaaGreatDoorW.PrintMore
attribute [local go_sem] max2_int min2_int max_two min_two max_three min_three max_four min_four   -- for this text's walks alone
set_option linter.unusedVariables false
set_option linter.unusedSimpArgs false

/-! ### turnstileref6_Block: function 16 -/
mutual
def turnstileref6_Block.j0 : Nat → Int → ByteArray → ByteArray → ByteArray → Bool → Bool → Option (ByteArray × Int)
  | 0, _, _, _, _, _, _ => none
  | k + 1, x0, x1, x2, x3, x13, x35 => if x35 = true then (some ((⟨#[]⟩ : ByteArray), 50)) else (if x13 = true then (turnstileref6_Block.l0 k x0 x1 x2 x3 (([x0, (x1.size : Int)] : List Int)) 0) else (some ((⟨#[]⟩ : ByteArray), 62)))
def turnstileref6_Block.l0 : Nat → Int → ByteArray → ByteArray → ByteArray → List Int → Int → Option (ByteArray × Int)
  | 0, _, _, _, _, _, _ => none
  | k + 1, x0, x1, x2, x3, x14, x15 => if x15 < (x1.size : Int) then (if 0 ≤ x15 then (if x14.length < 17592186044416 then (turnstileref6_Block.l0 k x0 x1 x2 x3 (x14 ++ [wrap64 ((wrap64 (bt x1 x15)) - 48)]) (wrap64 (x15 + 1))) else (none)) else (none)) else (turnstileref6_Block.l1 k x0 x1 x2 x3 x14)
def turnstileref6_Block.l1 : Nat → Int → ByteArray → ByteArray → ByteArray → List Int → Option (ByteArray × Int)
  | 0, _, _, _, _, _ => none
  | k + 1, x0, x1, x2, x3, x14 => if (x14.length : Int) < 16 then (if x0 = 0 then (if x14.length < 17592186044416 then (turnstileref6_Block.l1 k x0 x1 x2 x3 (x14 ++ [15])) else (none)) else (if 0 ≤ (wrap64 ((wrap64 ((x14.length : Int) - 2)) - (x1.size : Int))) then (if (wrap64 ((wrap64 ((x14.length : Int) - 2)) - (x1.size : Int))) < (x3.size : Int) then ((turnstileref6_sixteenth.f k (bt x3 (wrap64 ((wrap64 ((x14.length : Int) - 2)) - (x1.size : Int))))).bind fun t191 => (if x14.length < 17592186044416 then (turnstileref6_Block.l1 k x0 x1 x2 x3 (x14 ++ [t191])) else (none))) else (none)) else (none))) else ((turnstileref6_mixed.f k x0 x14 x2).bind fun t195 => ((turnstileref6_bytes.f k t195).bind fun t198 => (some (t198, 0))))
end
def turnstileref6_Block.f (k : Nat) (a0 : Int) (a1 : ByteArray) (a2 : ByteArray) (a3 : ByteArray) : Option (ByteArray × Int) := (turnstileref6_known.f a0).bind fun t178 => ((turnstileref6_isPIN.f k a1).bind fun t179 => ((turnstileref6_isPAN.f k a2).bind fun t180 => ((turnstileref6_filled.f k a0 a3 (wrap64 (14 - (a1.size : Int)))).bind fun t181 => (if t178 = true then (if t179 = true then (if a0 = 1 then (turnstileref6_Block.j0 k a0 a1 a2 a3 t181 false) else (turnstileref6_Block.j0 k a0 a1 a2 a3 t181 (!t180))) else (some ((⟨#[]⟩ : ByteArray), 60))) else (some ((⟨#[]⟩ : ByteArray), 61))))))
set_option maxHeartbeats 8000000 in
set_option maxRecDepth 100000 in
theorem turnstileref6_Block.calls (k : Nat) (a0 : Int) (a1 : ByteArray) (a2 : ByteArray) (a3 : ByteArray) (r1 : ByteArray) (r2 : Int) (w : World) (h : turnstileref6_Block.f k a0 a1 a2 a3 = some (r1, r2)) :
    Calls Tryz.prog 16 #[.int .i64 a0, .string a1, .string a2, .string a3] w fun e w' => e = .returned (.tuple #[.string r1, .int .i64 r2]) ∧ Below w.heap.size w w' := by
  have HB := Aside0.mk (Below.refl w.heap.size w)
  have H : ((turnstileref6_known.f a0).bind fun t178 => ((turnstileref6_isPIN.f k a1).bind fun t179 => ((turnstileref6_isPAN.f k a2).bind fun t180 => ((turnstileref6_filled.f k a0 a3 (wrap64 (14 - (a1.size : Int)))).bind fun t181 => (if t178 = true then (if t179 = true then (if a0 = 1 then (turnstileref6_Block.j0 k a0 a1 a2 a3 t181 false) else (turnstileref6_Block.j0 k a0 a1 a2 a3 t181 (!t180))) else (some ((⟨#[]⟩ : ByteArray), 60))) else (some ((⟨#[]⟩ : ByteArray), 61))))))) = some (r1, r2) := h
  clear h
  replace H := Option.bind_eq_some_iff.mp H
  obtain ⟨t178, A50, H⟩ := H
  replace H : ((turnstileref6_isPIN.f k a1).bind fun t179 => ((turnstileref6_isPAN.f k a2).bind fun t180 => ((turnstileref6_filled.f k a0 a3 (wrap64 (14 - (a1.size : Int)))).bind fun t181 => (if t178 = true then (if t179 = true then (if a0 = 1 then (turnstileref6_Block.j0 k a0 a1 a2 a3 t181 false) else (turnstileref6_Block.j0 k a0 a1 a2 a3 t181 (!t180))) else (some ((⟨#[]⟩ : ByteArray), 60))) else (some ((⟨#[]⟩ : ByteArray), 61)))))) = some (r1, r2) := H
  have A5 := Aside0.mk A50
  clear A50
  replace H := Option.bind_eq_some_iff.mp H
  obtain ⟨t179, A60, H⟩ := H
  replace H : ((turnstileref6_isPAN.f k a2).bind fun t180 => ((turnstileref6_filled.f k a0 a3 (wrap64 (14 - (a1.size : Int)))).bind fun t181 => (if t178 = true then (if t179 = true then (if a0 = 1 then (turnstileref6_Block.j0 k a0 a1 a2 a3 t181 false) else (turnstileref6_Block.j0 k a0 a1 a2 a3 t181 (!t180))) else (some ((⟨#[]⟩ : ByteArray), 60))) else (some ((⟨#[]⟩ : ByteArray), 61))))) = some (r1, r2) := H
  have A6 := Aside0.mk A60
  clear A60
  replace H := Option.bind_eq_some_iff.mp H
  obtain ⟨t180, A70, H⟩ := H
  replace H : ((turnstileref6_filled.f k a0 a3 (wrap64 (14 - (a1.size : Int)))).bind fun t181 => (if t178 = true then (if t179 = true then (if a0 = 1 then (turnstileref6_Block.j0 k a0 a1 a2 a3 t181 false) else (turnstileref6_Block.j0 k a0 a1 a2 a3 t181 (!t180))) else (some ((⟨#[]⟩ : ByteArray), 60))) else (some ((⟨#[]⟩ : ByteArray), 61)))) = some (r1, r2) := H
  have A7 := Aside0.mk A70
  clear A70
  replace H := Option.bind_eq_some_iff.mp H
  obtain ⟨t181, A80, H⟩ := H
  replace H : (if t178 = true then (if t179 = true then (if a0 = 1 then (turnstileref6_Block.j0 k a0 a1 a2 a3 t181 false) else (turnstileref6_Block.j0 k a0 a1 a2 a3 t181 (!t180))) else (some ((⟨#[]⟩ : ByteArray), 60))) else (some ((⟨#[]⟩ : ByteArray), 61))) = some (r1, r2) := H
  have A8 := Aside0.mk A80
  clear A80
  by_cases c9 : t178 = true
  · subst c9
    have H1 : (if t179 = true then (if a0 = 1 then (turnstileref6_Block.j0 k a0 a1 a2 a3 t181 false) else (turnstileref6_Block.j0 k a0 a1 a2 a3 t181 (!t180))) else (some ((⟨#[]⟩ : ByteArray), 60))) = some (r1, r2) := by rw [if_pos rfl] at H; exact H
    clear H
    have H := H1
    clear H1
    by_cases c10 : t179 = true
    · subst c10
      have H1 : (if a0 = 1 then (turnstileref6_Block.j0 k a0 a1 a2 a3 t181 false) else (turnstileref6_Block.j0 k a0 a1 a2 a3 t181 (!t180))) = some (r1, r2) := by rw [if_pos rfl] at H; exact H
      clear H
      have H := H1
      clear H1
      have HC11 := Aside0.mk H
      clear H
      go_enter Tryz.func16, Tryz.ntmps16
      go_upto_region 9 with (first | ((with_reducible refine gate_callee (f := 34) rfl ?_); refine goesL_ (some 18) rfl rfl Tryz.func34 (by kernel_rfl) rfl #[.int .i64 a0] rfl (by (try simp only [List.map_toArray, List.map_cons, List.map_nil]); first | done | rfl | (simp only [List.length_drop, List.length_take]; rfl)) ?_; (with_reducible refine (turnstileref6_known.calls a0 true _ A5.out).mono ?_); rintro e w' ⟨rfl, ⟨nd, rfl⟩⟩; refine ⟨_, rfl, ?_⟩) | ((with_reducible refine gate_callee (f := 35) rfl ?_); refine goesL_ (some 20) rfl rfl Tryz.func35 (by kernel_rfl) rfl #[.string a1] rfl (by (try simp only [List.map_toArray, List.map_cons, List.map_nil]); first | done | rfl | (simp only [List.length_drop, List.length_take]; rfl)) ?_; (with_reducible refine (turnstileref6_isPIN.calls k a1 true _ A6.out).mono ?_); rintro e w' ⟨rfl, ⟨nd, rfl⟩⟩; refine ⟨_, rfl, ?_⟩) | ((with_reducible refine gate_callee (f := 36) rfl ?_); refine goesL_ (some 22) rfl rfl Tryz.func36 (by kernel_rfl) rfl #[.string a2] rfl (by (try simp only [List.map_toArray, List.map_cons, List.map_nil]); first | done | rfl | (simp only [List.length_drop, List.length_take]; rfl)) ?_; (with_reducible refine (turnstileref6_isPAN.calls k a2 t180 _ A7.out).mono ?_); rintro e w' ⟨rfl, ⟨nd, rfl⟩⟩; refine ⟨_, rfl, ?_⟩) | ((with_reducible refine gate_callee (f := 37) rfl ?_); refine goesL_ (some 28) rfl rfl Tryz.func37 (by kernel_rfl) rfl #[.int .i64 a0, .string a3, .int .i64 (wrap64 (14 - (a1.size : Int)))] rfl (by (try simp only [List.map_toArray, List.map_cons, List.map_nil]); first | done | rfl | (simp only [List.length_drop, List.length_take]; rfl)) ?_; (with_reducible refine (turnstileref6_filled.calls k a0 a3 (wrap64 (14 - (a1.size : Int))) t181 _ A8.out).mono ?_); rintro e w' ⟨rfl, ⟨nd, rfl⟩⟩; refine ⟨_, rfl, ?_⟩))
      (try simp only [Act.put, List.setIfInBounds_toArray, List.set_cons_zero, List.set_cons_succ])
      go_cut [35] (fun v35 wc => ∃ (kq : Nat) (x35_10 : Bool), v35 = .bool x35_10 ∧ Aside0 (turnstileref6_Block.j0 kq a0 a1 a2 a3 t181 x35_10 = some (r1, r2)) ∧ Aside0 (kq ≤ k) ∧ Aside0 (Below w.heap.size w wc))
      case first =>
        have H := HC11.out
        clear HC11
        by_cases c12 : a0 = 1
        · rw [if_pos c12] at H
          have c12b0 : (a0 == 1) = true := beq_iff_eq.mpr c12
          have c12b1 : (a0 != 1) = false := bne_eq_false_iff_eq.mpr c12
          clear c12
          (first | rw [c12b0] | (simp only [i64_w, i32_w]; rw [c12b0]) | skip)
          have H' := Aside0.mk H
          clear H
          go_wp2
          go_meet
          case rel => exact ⟨_, (false), (by first | rfl | (simp; done) | (simp [*]; done)), H', ⟨by first | omega | exact Nat.le_refl _⟩, ⟨by repeat (first | (with_reducible first | exact HB.out | apply below_alloc | apply pw_below_drewN | apply below_drew1) | exact HB.out)⟩⟩
        · rw [if_neg c12] at H
          have c12b0 : (a0 == 1) = false := beq_eq_false_iff_ne.mpr c12
          have c12b1 : (a0 != 1) = true := bne_iff_ne.mpr c12
          (first | rw [c12b0] | (simp only [i64_w, i32_w]; rw [c12b0]) | skip)
          have H' := Aside0.mk H
          clear H
          go_wp2
          go_meet
          case rel => exact ⟨_, (!t180), (by first | rfl | (simp; done) | (simp [*]; done)), H', ⟨by first | omega | exact Nat.le_refl _⟩, ⟨by repeat (first | (with_reducible first | exact HB.out | apply below_alloc | apply pw_below_drewN | apply below_drew1) | exact HB.out)⟩⟩
      case rest =>
        clear HC11
        try clear c1
        try clear p2
        try clear c3
        try clear p6
        try clear c9
        try clear c10
        try clear c12
        try clear c12b0
        try clear c12b1
        obtain ⟨kq, x35_10, rfl, HA, HJ10, HB⟩ := hcut
        cases kq with
        | zero => exact absurd HA.out (by simp [turnstileref6_Block.j0])
        | succ kj10 =>
          have H := HA.out
          clear HA
          simp only [turnstileref6_Block.j0] at H
          by_cases c13 : x35_10 = true
          · subst c13
            have H1 : (some ((⟨#[]⟩ : ByteArray), 50)) = some (r1, r2) := by rw [if_pos rfl] at H; exact H
            clear H
            have H := H1
            clear H1
            simp only [Option.some.injEq, Prod.mk.injEq] at H
            obtain ⟨rfl, rfl⟩ := H
            go_wp2
            go_ret2
            exact ⟨by first | rfl | (simp [errW_none, errW_some] <;> rfl) | (simp [*, errW_none, errW_some] <;> rfl), by repeat (first | (with_reducible first | exact HB.out | apply below_alloc | apply pw_below_drewN | apply below_drew1) | exact HB.out)⟩
          · replace c13 := Bool.eq_false_iff.mpr c13
            subst c13
            have H1 : (if t181 = true then (turnstileref6_Block.l0 kj10 a0 a1 a2 a3 (([a0, (a1.size : Int)] : List Int)) 0) else (some ((⟨#[]⟩ : ByteArray), 62))) = some (r1, r2) := by rw [if_neg (show ¬ (false = true) by decide)] at H; exact H
            clear H
            have H := H1
            clear H1
            by_cases c14 : t181 = true
            · subst c14
              have H1 : (turnstileref6_Block.l0 kj10 a0 a1 a2 a3 (([a0, (a1.size : Int)] : List Int)) 0) = some (r1, r2) := by rw [if_pos rfl] at H; exact H
              clear H
              have H := H1
              clear H1
              obtain ⟨y182, hy182⟩ : ∃ y_ : List Int, y_ = (([a0, (a1.size : Int)] : List Int)) := ⟨_, rfl⟩
              replace H : (turnstileref6_Block.l0 kj10 a0 a1 a2 a3 y182 0) = some (r1, r2) := by first | (rw [hy182]; with_reducible exact H) | (have H2_ := (Option.bind_some _ _).symm.trans H; rw [hy182]; with_reducible exact H2_) | (have H2_ := (Option.bind_some _ _).symm.trans H; with_reducible exact H2_) | with_reducible exact H | (rw [hy182]; exact H) | exact H
              have Ny182 := Aside0.mk hy182
              clear hy182
              have H' := Aside0.mk H
              clear H
              go_wp2_with (first | ((with_reducible refine gate_dst (N := 48) rfl ?_); refine Kd.R_lit (Kd.int .i64) _ 3 ?hg (N := 48) ?hd (xs := ([a0, (a1.size : Int)] : List Int)) (inner := [.int .i64 a0, .int .i64 (a1.size : Int)]) (ok := fun _ => True) (okp := fun _ => True) ?hr ?hp (fun _ hk => hk) trivial (Below.refl _ _) (Nat.le_refl _) (by simp) ?_; (case hd => rfl); (case hg => rfl); (case hr => first | (go_simp; done) | (go_simp; rfl)); (case hp => exact (Reps.one (show Kd.M (Kd.int .i64) _ _ _ a0 [.int .i64 a0] from rfl) (Reps.one (show Kd.M (Kd.int .i64) _ _ _ (a1.size : Int) [.int .i64 (a1.size : Int)] from rfl) (Reps.none _ _)))); intro v183 w15 ho16 hb hg_ hnew_; clear hg_ hnew_; (first | rw [← Ny182.out] at ho16 | (simp only [Int.reduceToNat] at ho16; rw [← Ny182.out] at ho16)); have n0_ := Aside0.mk (Kd.R_lower ho16 (below_size (by repeat (first | (with_reducible first | exact HB.out | apply below_alloc | apply pw_below_drewN | apply below_drew1) | exact HB.out)))); have n1_ := Aside0.mk (below_step (by repeat (first | (with_reducible first | exact HB.out | apply below_alloc | apply pw_below_drewN | apply below_drew1) | exact HB.out)) hb); clear HB; have HO184 := n0_; have HB := n1_; clear n0_ n1_; clear hb ho16))
              go_loopg [14, 15] kj10 (fun kq v14 v15 w' => ∃ (x14_2 : List Int) (x15_2 : Int), v15 = .int .i64 x15_2 ∧ Aside0 (turnstileref6_Block.l0 kq a0 a1 a2 a3 x14_2 x15_2 = some (r1, r2)) ∧ Aside0 (kq ≤ kj10) ∧ Aside0 (Kd.R (Kd.int .i64) 3 w' w.heap.size (fun _ => True) v14 x14_2) ∧ Aside0 (Below w.heap.size w w'))
              case atStart => exact ⟨(y182), (0), (by first | rfl | (simp; done) | (simp [*]; done)), H', ⟨Nat.le_refl _⟩, ⟨by (with_reducible repeat (first | apply Kd.R_alloc | apply Kd.R_drewN | apply Kd.R_drew)); exact HO184.out⟩, ⟨by repeat (first | (with_reducible first | exact HB.out | apply below_alloc | apply pw_below_drewN | apply below_drew1) | exact HB.out)⟩⟩
              case round =>
                clear H'
                try clear c1
                try clear p2
                try clear c3
                try clear p6
                try clear c9
                try clear c10
                try clear c12
                try clear c12b0
                try clear c12b1
                try clear c13
                try clear c14
                try clear c16
                try clear p2
                try clear p6
                obtain ⟨x14_2, x15_2, rfl, HA, HK2, HO_14, HB⟩ := hrel
                cases gk with
                | zero => exact absurd HA.out (by simp [turnstileref6_Block.l0])
                | succ k2 =>
                  have H := HA.out
                  clear HA
                  simp only [turnstileref6_Block.l0] at H
                  by_cases c17 : x15_2 < (a1.size : Int)
                  · rw [if_pos c17] at H
                    have c17b0 : decide (x15_2 < (a1.size : Int)) = true := decide_eq_true c17
                    clear c17
                    by_cases c18 : 0 ≤ x15_2
                    · rw [if_pos c18] at H
                      have c18b0 : decide (0 ≤ x15_2) = true := decide_eq_true c18
                      clear c18
                      by_cases c20 : x14_2.length < 17592186044416
                      · rw [if_pos c20] at H
                        have LMc20 := Aside0.mk c20
                        clear c20
                        obtain ⟨y185, hy185⟩ : ∃ y_ : List Int, y_ = (x14_2 ++ [wrap64 ((wrap64 (bt a1 x15_2)) - 48)]) := ⟨_, rfl⟩
                        replace H : (turnstileref6_Block.l0 k2 a0 a1 a2 a3 y185 (wrap64 (x15_2 + 1))) = some (r1, r2) := by first | (rw [hy185]; with_reducible exact H) | (have H2_ := (Option.bind_some _ _).symm.trans H; rw [hy185]; with_reducible exact H2_) | (have H2_ := (Option.bind_some _ _).symm.trans H; with_reducible exact H2_) | with_reducible exact H | (rw [hy185]; exact H) | exact H
                        have Ny185 := Aside0.mk hy185
                        clear hy185
                        have H' := Aside0.mk H
                        clear H
                        have p19 : 0 ≤ (x15_2 : Int) := of_decide_eq_true (by first | (with_reducible assumption) | assumption)
                        have q19 : x15_2 < (a1.size : Int) := of_decide_eq_true (by first | (with_reducible assumption) | assumption)
                        have hx19 := bt_at a1 x15_2
                        replace p19 := eq_true p19
                        replace q19 := eq_true q19
                        go_wp2_with (first | ((with_reducible refine gate_builtin (b := .append) (xs := #[.tmp 55, .tmp 61]) rfl ?_); at_builtin; refine Kd.R_append (Kd.int .i64) (w0 := w) w.heap.size rfl (.tmp 55) (.tmp 61) 59 3 (.int .i64 0) 8 rfl Tryz.underlying59 info3 rfl (by decide) (by omega) u14 x14_2 (wrap64 ((wrap64 (bt a1 x15_2)) - 48)) [.int .i64 (wrap64 ((wrap64 (bt a1 x15_2)) - 48))] (fun _ => True) (fun _ => False) rfl rfl ?aP (fun _ hk => hk.elim) ?aF ?aO ?aB ?aS ?aL ?_; (case aP => exact rfl); (case aB => exact (by repeat (first | (with_reducible first | exact HB.out | apply below_alloc | apply pw_below_drewN | apply below_drew1) | exact HB.out))); (case aF => exact (fun _ _ => trivial)); (case aO => exact (by (with_reducible repeat (first | apply Kd.R_alloc | apply Kd.R_drewN | apply Kd.R_drew)); exact HO_14.out)); (case aS => exact (below_size (by repeat (first | (with_reducible first | exact HB.out | apply below_alloc | apply pw_below_drewN | apply below_drew1) | exact HB.out)))); (case aL => have := LMc20.out; omega); intro v186 w21 ho hb hg hat; rw [← Ny185.out] at ho; have n0_ := Aside0.mk (hb); have n1_ := Aside0.mk (ho); clear HB; clear HO_14; have HB := n0_; have HO187 := n1_; clear n0_ n1_; clear ho hb hg hat))
                        go_roundg k2
                        case measure => have := HJ10.out; have := HK2.out; omega
                        case rel => exact ⟨(y185), (wrap64 (x15_2 + 1)), (by first | rfl | (simp; done) | (simp [*]; done)), H', ⟨by have := HJ10.out; have := HK2.out; omega⟩, ⟨by (with_reducible repeat (first | apply Kd.R_alloc | apply Kd.R_drewN | apply Kd.R_drew)); exact HO187.out⟩, ⟨by repeat (first | (with_reducible first | exact HB.out | apply below_alloc | apply pw_below_drewN | apply below_drew1) | exact HB.out)⟩⟩
                      · rw [if_neg c20] at H
                        exact absurd H (by simp)
                    · rw [if_neg c18] at H
                      exact absurd H (by simp)
                  · rw [if_neg c17] at H
                    have c17b0 : decide (x15_2 < (a1.size : Int)) = false := decide_eq_false c17
                    clear c17
                    have H' := Aside0.mk H
                    clear H
                    go_wp2
                    go_loopg [14] k2 (fun kq v14 w' => ∃ (x14_3 : List Int), Aside0 (turnstileref6_Block.l1 kq a0 a1 a2 a3 x14_3 = some (r1, r2)) ∧ Aside0 (kq ≤ k2) ∧ Aside0 (Kd.R (Kd.int .i64) 3 w' w.heap.size (fun _ => True) v14 x14_3) ∧ Aside0 (Below w.heap.size w w'))
                    case atStart => exact ⟨(x14_2), H', ⟨Nat.le_refl _⟩, ⟨by (with_reducible repeat (first | apply Kd.R_alloc | apply Kd.R_drewN | apply Kd.R_drew)); exact HO_14.out⟩, ⟨by repeat (first | (with_reducible first | exact HB.out | apply below_alloc | apply pw_below_drewN | apply below_drew1) | exact HB.out)⟩⟩
                    case round =>
                      clear H'
                      try clear c1
                      try clear p1
                      try clear q1
                      try clear hx1
                      try clear c2
                      try clear p2
                      try clear c3
                      try clear p6
                      try clear c9
                      try clear c10
                      try clear c12
                      try clear c12b0
                      try clear c12b1
                      try clear c13
                      try clear c14
                      try clear c16
                      try clear c17
                      try clear c17b0
                      try clear c18
                      try clear c18b0
                      try clear p19
                      try clear q19
                      try clear hx19
                      try clear c20
                      try clear p19
                      try clear p2
                      try clear p6
                      try clear q19
                      obtain ⟨x14_3, HA, HK3, HO_14, HB⟩ := hrel
                      cases gk with
                      | zero => exact absurd HA.out (by simp [turnstileref6_Block.l1])
                      | succ k3 =>
                        have H := HA.out
                        clear HA
                        simp only [turnstileref6_Block.l1] at H
                        by_cases c22 : (x14_3.length : Int) < 16
                        · rw [if_pos c22] at H
                          have c22b0 : decide ((x14_3.length : Int) < 16) = true := decide_eq_true c22
                          have c22b1 : decide (x14_3.length < 16) = true := decide_eq_true (by omega)
                          clear c22
                          by_cases c23 : a0 = 0
                          · rw [if_pos c23] at H
                            have c23b0 : (a0 == 0) = true := beq_iff_eq.mpr c23
                            have c23b1 : (a0 != 0) = false := bne_eq_false_iff_eq.mpr c23
                            clear c23
                            by_cases c24 : x14_3.length < 17592186044416
                            · rw [if_pos c24] at H
                              have LMc24 := Aside0.mk c24
                              clear c24
                              obtain ⟨y188, hy188⟩ : ∃ y_ : List Int, y_ = (x14_3 ++ [15]) := ⟨_, rfl⟩
                              replace H : (turnstileref6_Block.l1 k3 a0 a1 a2 a3 y188) = some (r1, r2) := by first | (rw [hy188]; with_reducible exact H) | (have H2_ := (Option.bind_some _ _).symm.trans H; rw [hy188]; with_reducible exact H2_) | (have H2_ := (Option.bind_some _ _).symm.trans H; with_reducible exact H2_) | with_reducible exact H | (rw [hy188]; exact H) | exact H
                              have Ny188 := Aside0.mk hy188
                              clear hy188
                              have H' := Aside0.mk H
                              clear H
                              obtain ⟨Ao25, co25, eo25⟩ := Kd.R_slice HO_14.out
                              subst eo25
                              go_wp2_with (first | ((with_reducible refine gate_builtin (b := .append) (xs := #[.tmp 77, .tmp 79]) rfl ?_); at_builtin; refine Kd.R_append (Kd.int .i64) (w0 := w) w.heap.size rfl (.tmp 77) (.tmp 79) 59 3 (.int .i64 0) 8 rfl Tryz.underlying59 info3 rfl (by decide) (by omega) (.slice Ao25 x14_3.length co25) x14_3 15 [.int .i64 15] (fun _ => True) (fun _ => False) rfl rfl ?aP (fun _ hk => hk.elim) ?aF ?aO ?aB ?aS ?aL ?_; (case aP => exact rfl); (case aB => exact (by repeat (first | (with_reducible first | exact HB.out | apply below_alloc | apply pw_below_drewN | apply below_drew1) | exact HB.out))); (case aF => exact (fun _ _ => trivial)); (case aO => exact (by (with_reducible repeat (first | apply Kd.R_alloc | apply Kd.R_drewN | apply Kd.R_drew)); exact HO_14.out)); (case aS => exact (below_size (by repeat (first | (with_reducible first | exact HB.out | apply below_alloc | apply pw_below_drewN | apply below_drew1) | exact HB.out)))); (case aL => have := LMc24.out; omega); intro v189 w26 ho hb hg hat; rw [← Ny188.out] at ho; have n0_ := Aside0.mk (hb); have n1_ := Aside0.mk (ho); clear HB; clear HO_14; have HB := n0_; have HO190 := n1_; clear n0_ n1_; clear ho hb hg hat))
                              go_roundg k3
                              case measure => have := HJ10.out; have := HK2.out; have := HK3.out; omega
                              case rel => exact ⟨(y188), H', ⟨by have := HJ10.out; have := HK2.out; have := HK3.out; omega⟩, ⟨by (with_reducible repeat (first | apply Kd.R_alloc | apply Kd.R_drewN | apply Kd.R_drew)); exact HO190.out⟩, ⟨by repeat (first | (with_reducible first | exact HB.out | apply below_alloc | apply pw_below_drewN | apply below_drew1) | exact HB.out)⟩⟩
                            · rw [if_neg c24] at H
                              exact absurd H (by simp)
                          · rw [if_neg c23] at H
                            have c23b0 : (a0 == 0) = false := beq_eq_false_iff_ne.mpr c23
                            have c23b1 : (a0 != 0) = true := bne_iff_ne.mpr c23
                            obtain ⟨ji27, hji27⟩ : ∃ j_ : Int, (wrap64 ((wrap64 ((x14_3.length : Int) - 2)) - (a1.size : Int))) = j_ := ⟨_, rfl⟩
                            replace H : (if 0 ≤ (ji27) then (if (ji27) < (a3.size : Int) then ((turnstileref6_sixteenth.f k3 (bt a3 (ji27))).bind fun t191 => (if x14_3.length < 17592186044416 then (turnstileref6_Block.l1 k3 a0 a1 a2 a3 (x14_3 ++ [t191])) else (none))) else (none)) else (none)) = some (r1, r2) := by first | (rw [hji27] at H; exact H) | (simp only [hji27] at H ⊢; exact H)
                            have hji27w : (IntKind.i64.wrap ((wrap64 ((x14_3.length : Int) - 2)) - (a1.size : Int))) = ji27 := (i64_w _).trans hji27
                            by_cases c28 : 0 ≤ (ji27)
                            · rw [if_pos c28] at H
                              have c28b0 : decide (0 ≤ (ji27)) = true := decide_eq_true c28
                              clear c28
                              by_cases c29 : (ji27) < (a3.size : Int)
                              · rw [if_pos c29] at H
                                have c29b0 : decide ((ji27) < (a3.size : Int)) = true := decide_eq_true c29
                                clear c29
                                replace H := Option.bind_eq_some_iff.mp H
                                obtain ⟨t191, A310, H⟩ := H
                                replace H : (if x14_3.length < 17592186044416 then (turnstileref6_Block.l1 k3 a0 a1 a2 a3 (x14_3 ++ [t191])) else (none)) = some (r1, r2) := H
                                have A31 := Aside0.mk A310
                                clear A310
                                by_cases c32 : x14_3.length < 17592186044416
                                · rw [if_pos c32] at H
                                  have LMc32 := Aside0.mk c32
                                  clear c32
                                  obtain ⟨y192, hy192⟩ : ∃ y_ : List Int, y_ = (x14_3 ++ [t191]) := ⟨_, rfl⟩
                                  replace H : (turnstileref6_Block.l1 k3 a0 a1 a2 a3 y192) = some (r1, r2) := by first | (rw [hy192]; with_reducible exact H) | (have H2_ := (Option.bind_some _ _).symm.trans H; rw [hy192]; with_reducible exact H2_) | (have H2_ := (Option.bind_some _ _).symm.trans H; with_reducible exact H2_) | with_reducible exact H | (rw [hy192]; exact H) | exact H
                                  have Ny192 := Aside0.mk hy192
                                  clear hy192
                                  have H' := Aside0.mk H
                                  clear H
                                  obtain ⟨Ao33, co33, eo33⟩ := Kd.R_slice HO_14.out
                                  subst eo33
                                  have p30 : 0 ≤ ((ji27) : Int) := of_decide_eq_true (by first | (with_reducible assumption) | assumption)
                                  have q30 : (ji27) < (a3.size : Int) := of_decide_eq_true (by first | (with_reducible assumption) | assumption)
                                  have hx30 := bt_at a3 (ji27)
                                  replace p30 := eq_true p30
                                  replace q30 := eq_true q30
                                  go_wp2_with (first | ((with_reducible refine gate_callee (f := 38) rfl ?_); refine goesL_ (some 76) rfl rfl Tryz.func38 (by kernel_rfl) rfl #[.int .u8 (bt a3 (ji27))] rfl (by (try simp only [List.map_toArray, List.map_cons, List.map_nil]); first | done | (simp only [hji27]; rfl) | rfl | (simp only [List.length_drop, List.length_take]; rfl)) ?_; (with_reducible refine (turnstileref6_sixteenth.calls k3 (bt a3 (ji27)) t191 _ A31.out).mono ?_); rintro e w' ⟨rfl, ⟨nd, rfl⟩⟩; refine ⟨_, rfl, ?_⟩) | ((with_reducible refine gate_builtin (b := .append) (xs := #[.tmp 77, .tmp 79]) rfl ?_); at_builtin; refine Kd.R_append (Kd.int .i64) (w0 := w) w.heap.size rfl (.tmp 77) (.tmp 79) 59 3 (.int .i64 0) 8 rfl Tryz.underlying59 info3 rfl (by decide) (by omega) (.slice Ao33 x14_3.length co33) x14_3 t191 [.int .i64 t191] (fun _ => True) (fun _ => False) rfl rfl ?aP (fun _ hk => hk.elim) ?aF ?aO ?aB ?aS ?aL ?_; (case aP => exact rfl); (case aB => exact (by repeat (first | (with_reducible first | exact HB.out | apply below_alloc | apply pw_below_drewN | apply below_drew1) | exact HB.out))); (case aF => exact (fun _ _ => trivial)); (case aO => exact (by (with_reducible repeat (first | apply Kd.R_alloc | apply Kd.R_drewN | apply Kd.R_drew)); exact HO_14.out)); (case aS => exact (below_size (by repeat (first | (with_reducible first | exact HB.out | apply below_alloc | apply pw_below_drewN | apply below_drew1) | exact HB.out)))); (case aL => have := LMc32.out; omega); intro v193 w34 ho hb hg hat; rw [← Ny192.out] at ho; have n0_ := Aside0.mk (hb); have n1_ := Aside0.mk (ho); clear HB; clear HO_14; have HB := n0_; have HO194 := n1_; clear n0_ n1_; clear ho hb hg hat))
                                  go_roundg k3
                                  case measure => have := HJ10.out; have := HK2.out; have := HK3.out; omega
                                  case rel => exact ⟨(y192), H', ⟨by have := HJ10.out; have := HK2.out; have := HK3.out; omega⟩, ⟨by (with_reducible repeat (first | apply Kd.R_alloc | apply Kd.R_drewN | apply Kd.R_drew)); exact HO194.out⟩, ⟨by repeat (first | (with_reducible first | exact HB.out | apply below_alloc | apply pw_below_drewN | apply below_drew1) | exact HB.out)⟩⟩
                                · rw [if_neg c32] at H
                                  exact absurd H (by simp)
                              · rw [if_neg c29] at H
                                exact absurd H (by simp)
                            · rw [if_neg c28] at H
                              exact absurd H (by simp)
                        · rw [if_neg c22] at H
                          have c22b0 : decide ((x14_3.length : Int) < 16) = false := decide_eq_false c22
                          have c22b1 : decide (x14_3.length < 16) = false := decide_eq_false (by omega)
                          clear c22
                          replace H := Option.bind_eq_some_iff.mp H
                          obtain ⟨t195, A350, H⟩ := H
                          replace H : ((turnstileref6_bytes.f k3 t195).bind fun t198 => (some (t198, 0))) = some (r1, r2) := H
                          have A35 := Aside0.mk A350
                          clear A350
                          replace H := Option.bind_eq_some_iff.mp H
                          obtain ⟨t198, A360, H⟩ := H
                          replace H : (some (t198, 0)) = some (r1, r2) := H
                          have A36 := Aside0.mk A360
                          clear A360
                          simp only [Option.some.injEq, Prod.mk.injEq] at H
                          obtain ⟨rfl, rfl⟩ := H
                          obtain ⟨Ao37, co37, eo37⟩ := Kd.R_slice HO_14.out
                          subst eo37
                          go_wp2_with (first | ((with_reducible refine gate_callee (f := 40) rfl ?_); refine goesL_ (some 84) rfl rfl Tryz.func40 (by kernel_rfl) rfl #[.int .i64 a0, .slice Ao37 x14_3.length co37, .string a2] rfl (by (try simp only [List.map_toArray, List.map_cons, List.map_nil]); first | done | rfl | (simp only [List.length_drop, List.length_take]; rfl)) ?_; (with_reducible refine (turnstileref6_mixed.calls k3 a0 (fun k_ => some k_ = (.slice Ao37 x14_3.length co37 : Value).ownBlock) (.slice Ao37 x14_3.length co37) x14_3 a2 t195 w _ ?side1 ?side2 A35.out).mono ?_); (case side1 => repeat (first | (with_reducible first | exact HB.out | apply below_alloc | apply pw_below_drewN | apply below_drew1) | exact HB.out)); (case side2 => exact Kd.R_tight rfl HO_14.out); rintro e w38 ⟨v196, rfl, ho0, hb, hkp⟩; refine ⟨_, rfl, ?_⟩; have n0_ := Aside0.mk (Kd.R_mono (ok' := fun k_ => True) ho0 (fun k_ hk_ => trivial)); have n1_ := Aside0.mk (hb); clear HB; clear HO_14; have HO197 := n0_; have HB := n1_; clear n0_ n1_; (try clear hb); (try clear hkp); (try clear ho0); obtain ⟨Ao39, co39, eo39⟩ := Kd.R_slice HO197.out; subst eo39) | ((with_reducible refine gate_callee (f := 39) rfl ?_); refine goesL_ (some 85) rfl rfl Tryz.func39 (by kernel_rfl) rfl #[.slice Ao39 t195.length co39] rfl (by (try simp only [List.map_toArray, List.map_cons, List.map_nil]); first | done | rfl | (simp only [List.length_drop, List.length_take]; rfl)) ?_; (with_reducible refine (turnstileref6_bytes.calls k3 _ _ t195 t198 _ ?side1 ?side2 A36.out).mono ?_); (case side1 => repeat (first | exact (Kd.R_reads' HO197.out).2.2 | (with_reducible refine Kd.C_alloc ?_ _) | (with_reducible refine Kd.C_drewN ?_ _) | (with_reducible refine Kd.C_drew ?_))); (case side2 => exact (Kd.R_reads' HO197.out).2.1); rintro e w40 ⟨rfl, hb⟩; refine ⟨_, rfl, ?_⟩; have n0_ := Aside0.mk (Kd.R_below (by (with_reducible repeat (first | apply Kd.R_alloc | apply Kd.R_drewN | apply Kd.R_drew)); exact HO197.out) hb); have n1_ := Aside0.mk (below_step (by repeat (first | (with_reducible first | exact HB.out | apply below_alloc | apply pw_below_drewN | apply below_drew1) | exact HB.out)) hb); clear HO197; clear HB; have HO197 := n0_; have HB := n1_; clear n0_ n1_; (try clear hb); (try clear hb2); (try clear hk); (try clear hi)))
                          go_ret2
                          exact ⟨by first | rfl | (simp [errW_none, errW_some] <;> rfl) | (simp [*, errW_none, errW_some] <;> rfl), by repeat (first | (with_reducible first | exact HB.out | apply below_alloc | apply pw_below_drewN | apply below_drew1) | exact HB.out)⟩
            · replace c14 := Bool.eq_false_iff.mpr c14
              subst c14
              have H1 : (some ((⟨#[]⟩ : ByteArray), 62)) = some (r1, r2) := by rw [if_neg (show ¬ (false = true) by decide)] at H; exact H
              clear H
              have H := H1
              clear H1
              simp only [Option.some.injEq, Prod.mk.injEq] at H
              obtain ⟨rfl, rfl⟩ := H
              go_wp2
              go_ret2
              exact ⟨by first | rfl | (simp [errW_none, errW_some] <;> rfl) | (simp [*, errW_none, errW_some] <;> rfl), by repeat (first | (with_reducible first | exact HB.out | apply below_alloc | apply pw_below_drewN | apply below_drew1) | exact HB.out)⟩
    · replace c10 := Bool.eq_false_iff.mpr c10
      subst c10
      have H1 : (some ((⟨#[]⟩ : ByteArray), 60)) = some (r1, r2) := by rw [if_neg (show ¬ (false = true) by decide)] at H; exact H
      clear H
      have H := H1
      clear H1
      simp only [Option.some.injEq, Prod.mk.injEq] at H
      obtain ⟨rfl, rfl⟩ := H
      go_enter Tryz.func16, Tryz.ntmps16
      go_wp2_with (first | ((with_reducible refine gate_callee (f := 34) rfl ?_); refine goesL_ (some 18) rfl rfl Tryz.func34 (by kernel_rfl) rfl #[.int .i64 a0] rfl (by (try simp only [List.map_toArray, List.map_cons, List.map_nil]); first | done | rfl | (simp only [List.length_drop, List.length_take]; rfl)) ?_; (with_reducible refine (turnstileref6_known.calls a0 true _ A5.out).mono ?_); rintro e w' ⟨rfl, ⟨nd, rfl⟩⟩; refine ⟨_, rfl, ?_⟩) | ((with_reducible refine gate_callee (f := 35) rfl ?_); refine goesL_ (some 20) rfl rfl Tryz.func35 (by kernel_rfl) rfl #[.string a1] rfl (by (try simp only [List.map_toArray, List.map_cons, List.map_nil]); first | done | rfl | (simp only [List.length_drop, List.length_take]; rfl)) ?_; (with_reducible refine (turnstileref6_isPIN.calls k a1 false _ A6.out).mono ?_); rintro e w' ⟨rfl, ⟨nd, rfl⟩⟩; refine ⟨_, rfl, ?_⟩) | ((with_reducible refine gate_callee (f := 36) rfl ?_); refine goesL_ (some 22) rfl rfl Tryz.func36 (by kernel_rfl) rfl #[.string a2] rfl (by (try simp only [List.map_toArray, List.map_cons, List.map_nil]); first | done | rfl | (simp only [List.length_drop, List.length_take]; rfl)) ?_; (with_reducible refine (turnstileref6_isPAN.calls k a2 t180 _ A7.out).mono ?_); rintro e w' ⟨rfl, ⟨nd, rfl⟩⟩; refine ⟨_, rfl, ?_⟩) | ((with_reducible refine gate_callee (f := 37) rfl ?_); refine goesL_ (some 28) rfl rfl Tryz.func37 (by kernel_rfl) rfl #[.int .i64 a0, .string a3, .int .i64 (wrap64 (14 - (a1.size : Int)))] rfl (by (try simp only [List.map_toArray, List.map_cons, List.map_nil]); first | done | rfl | (simp only [List.length_drop, List.length_take]; rfl)) ?_; (with_reducible refine (turnstileref6_filled.calls k a0 a3 (wrap64 (14 - (a1.size : Int))) t181 _ A8.out).mono ?_); rintro e w' ⟨rfl, ⟨nd, rfl⟩⟩; refine ⟨_, rfl, ?_⟩))
      go_ret2
      exact ⟨by first | rfl | (simp [errW_none, errW_some] <;> rfl) | (simp [*, errW_none, errW_some] <;> rfl), by repeat (first | (with_reducible first | exact HB.out | apply below_alloc | apply pw_below_drewN | apply below_drew1) | exact HB.out)⟩
  · replace c9 := Bool.eq_false_iff.mpr c9
    subst c9
    have H1 : (some ((⟨#[]⟩ : ByteArray), 61)) = some (r1, r2) := by rw [if_neg (show ¬ (false = true) by decide)] at H; exact H
    clear H
    have H := H1
    clear H1
    simp only [Option.some.injEq, Prod.mk.injEq] at H
    obtain ⟨rfl, rfl⟩ := H
    go_enter Tryz.func16, Tryz.ntmps16
    go_wp2_with (first | ((with_reducible refine gate_callee (f := 34) rfl ?_); refine goesL_ (some 18) rfl rfl Tryz.func34 (by kernel_rfl) rfl #[.int .i64 a0] rfl (by (try simp only [List.map_toArray, List.map_cons, List.map_nil]); first | done | rfl | (simp only [List.length_drop, List.length_take]; rfl)) ?_; (with_reducible refine (turnstileref6_known.calls a0 false _ A5.out).mono ?_); rintro e w' ⟨rfl, ⟨nd, rfl⟩⟩; refine ⟨_, rfl, ?_⟩) | ((with_reducible refine gate_callee (f := 35) rfl ?_); refine goesL_ (some 20) rfl rfl Tryz.func35 (by kernel_rfl) rfl #[.string a1] rfl (by (try simp only [List.map_toArray, List.map_cons, List.map_nil]); first | done | rfl | (simp only [List.length_drop, List.length_take]; rfl)) ?_; (with_reducible refine (turnstileref6_isPIN.calls k a1 t179 _ A6.out).mono ?_); rintro e w' ⟨rfl, ⟨nd, rfl⟩⟩; refine ⟨_, rfl, ?_⟩) | ((with_reducible refine gate_callee (f := 36) rfl ?_); refine goesL_ (some 22) rfl rfl Tryz.func36 (by kernel_rfl) rfl #[.string a2] rfl (by (try simp only [List.map_toArray, List.map_cons, List.map_nil]); first | done | rfl | (simp only [List.length_drop, List.length_take]; rfl)) ?_; (with_reducible refine (turnstileref6_isPAN.calls k a2 t180 _ A7.out).mono ?_); rintro e w' ⟨rfl, ⟨nd, rfl⟩⟩; refine ⟨_, rfl, ?_⟩) | ((with_reducible refine gate_callee (f := 37) rfl ?_); refine goesL_ (some 28) rfl rfl Tryz.func37 (by kernel_rfl) rfl #[.int .i64 a0, .string a3, .int .i64 (wrap64 (14 - (a1.size : Int)))] rfl (by (try simp only [List.map_toArray, List.map_cons, List.map_nil]); first | done | rfl | (simp only [List.length_drop, List.length_take]; rfl)) ?_; (with_reducible refine (turnstileref6_filled.calls k a0 a3 (wrap64 (14 - (a1.size : Int))) t181 _ A8.out).mono ?_); rintro e w' ⟨rfl, ⟨nd, rfl⟩⟩; refine ⟨_, rfl, ?_⟩))
    go_ret2
    exact ⟨by first | rfl | (simp [errW_none, errW_some] <;> rfl) | (simp [*, errW_none, errW_some] <;> rfl), by repeat (first | (with_reducible first | exact HB.out | apply below_alloc | apply pw_below_drewN | apply below_drew1) | exact HB.out)⟩

end Go.Proofs.YtkjjdodnkcmeiaaGreatDoor.PX
