/- The walk of the law PinValues, and the law: the program's Value and the document's answer the same, of any key, PAN, index and PIN. -/
import Derived.Test.YtkjjdodnkcmeiaaDoorPurK
import Derived.Test.YtkjjdodnkcmeiaaDoorRVal
namespace Go.Proofs.YtkjjdodnkcmeiaaDoor.PX
open Go.RowKit Go.Proofs.YtkjjdodnkcmeiaaDoorW.PrintWords Go.Proofs.YtkjjdodnkcmeiaaDoorW.PrintLast Go.Proofs.YtkjjdodnkcmeiaaDoorW.PrintMore

set_option maxRecDepth 100000 in
set_option maxHeartbeats 1000000 in
theorem c21_idx (key pan index pin : ByteArray) (s1 : pan.size ≤ 140737488355328) (s2 : index.size ≤ 140737488355328) (s3 : pin.size ≤ 140737488355328) (hk : key.size = 16) (hp : digB (bl pan) 13 19 = true) (hq : digB (bl pin) 4 12 = true) (hx : withinB (bl index) (bl (sgnB.extract 1 7)) 1 1 = false) (w : World) :
    Calls Tryd.prog 21 #[.string key, .string pan, .string index, .string pin] w fun e w' => e = .returned (.tuple #[.string (mkB []), .int .i64 1]) ∧ Below w.heap.size w w' := by
  have C37 := Lib.hid (r37 pan s1 true hp)
  have C36 := Lib.hid (r36 pin s3 true hq)
  have k1 : ((key.size : Int) != 16) = false := bne_eq_false_iff_eq.mpr (by omega)
  have hcase : ¬ index.size = 1 ∨ ∃ h : 0 < index.size, index.size = 1 ∧ ((index[0]'h).toNat < 49 ∨ 49 ≤ (index[0]'h).toNat ∧ 54 < (index[0]'h).toNat) := by
    by_cases h1 : index.size = 1
    · right
      refine ⟨by omega, h1, ?_⟩
      have hb : bl index = [index[0]'(by omega)] := by
        apply List.ext_getElem
        · exact (bl_length index).trans h1
        · intro i hi1 hi2
          have : i = 0 := by simp at hi2; omega
          subst this
          rfl
      have hc : (bl (sgnB.extract 1 7)).contains (index[0]'(by omega)) = false := by
        unfold withinB at hx
        rw [hb] at hx
        simpa using hx
      have hn : ∀ n : Fin 256, (bl (sgnB.extract 1 7)).contains (UInt8.ofNat n.1) = false → (UInt8.ofNat n.1).toNat < 49 ∨ 49 ≤ (UInt8.ofNat n.1).toNat ∧ 54 < (UInt8.ofNat n.1).toNat := by decide +kernel
      have h4 := hn ⟨(index[0]'(by omega)).toNat, UInt8.toNat_lt _⟩
      simp only [UInt8.ofNat_toNat] at h4
      exact h4 hc
    · exact Or.inl h1
  clear hp hq s1 s3 hx hk
  rcases hcase with h1 | ⟨h0, h1, h49 | ⟨h49, h54⟩⟩
  · have k2 : ((index.size : Int) != 1) = true := bne_iff_ne.mpr (by omega)
    clear h1
    go_enter Tryd.func21, Tryd.ntmps21
    go_wp2_with (first
      | (go_at_call 37; (with_reducible refine (C37.out _).mono ?_); rintro e w' ⟨n37, rfl, rfl⟩)
      | (go_at_call 36; (with_reducible refine (C36.out _).mono ?_); rintro e w' ⟨n36, rfl, rfl⟩))
    go_ret2
    exact ⟨rfl, below_drewN2 _ _ _⟩
  · have k2 : ((index.size : Int) != 1) = false := bne_eq_false_iff_eq.mpr (by omega)
    have k3 : decide (((index[0]'h0).toNat : Int) < 49) = true := decide_eq_true (by omega)
    clear h1 h49
    go_enter Tryd.func21, Tryd.ntmps21
    go_wp2_with (first
      | (go_at_call 37; (with_reducible refine (C37.out _).mono ?_); rintro e w' ⟨n37, rfl, rfl⟩)
      | (go_at_call 36; (with_reducible refine (C36.out _).mono ?_); rintro e w' ⟨n36, rfl, rfl⟩))
    go_ret2
    exact ⟨rfl, below_drewN2 _ _ _⟩
  · have k2 : ((index.size : Int) != 1) = false := bne_eq_false_iff_eq.mpr (by omega)
    have k3 : decide (((index[0]'h0).toNat : Int) < 49) = false := decide_eq_false (by omega)
    have k4 : decide ((54 : Int) < ((index[0]'h0).toNat : Int)) = true := decide_eq_true (by omega)
    clear h1 h49 h54
    go_enter Tryd.func21, Tryd.ntmps21
    go_wp2_with (first
      | (go_at_call 37; (with_reducible refine (C37.out _).mono ?_); rintro e w' ⟨n37, rfl, rfl⟩)
      | (go_at_call 36; (with_reducible refine (C36.out _).mono ?_); rintro e w' ⟨n36, rfl, rfl⟩))
    go_ret2
    exact ⟨rfl, below_drewN2 _ _ _⟩
theorem c21 (key pan index pin : ByteArray) (s1 : pan.size ≤ 140737488355328) (s2 : index.size ≤ 140737488355328) (s3 : pin.size ≤ 140737488355328) (w : World) :
    Calls Tryd.prog 21 #[.string key, .string pan, .string index, .string pin] w fun e w' => e = .returned (.tuple #[.string (valueR key pan index pin).1, .int .i64 (valueR key pan index pin).2]) ∧ Below w.heap.size w w' := by
  unfold valueR
  by_cases hk : key.size = 16
  · rw [if_pos hk]
    cases hp : digB (bl pan) 13 19
    · rw [if_neg (by decide)]
      exact c21_err key pan index pin false _ s1 s3 hp rfl 50 (Or.inr (Or.inl ⟨hk, rfl, rfl⟩)) w
    · rw [if_pos rfl]
      cases hq : digB (bl pin) 4 12
      · rw [if_neg (by decide)]
        exact c21_err key pan index pin true false s1 s3 hp hq 60 (Or.inr (Or.inr ⟨hk, rfl, rfl, rfl⟩)) w
      · rw [if_pos rfl]
        cases hx : withinB (bl index) (bl (sgnB.extract 1 7)) 1 1
        · rw [if_neg (by decide)]
          exact c21_idx key pan index pin s1 s2 s3 hk hp hq hx w
        · rw [if_pos rfl]
          exact c21_ok key pan index pin w hk hp hq hx
  · rw [if_neg hk]
    exact c21_err key pan index pin _ _ s1 s3 rfl rfl 30 (Or.inl ⟨hk, rfl⟩) w
set_option maxRecDepth 100000 in
set_option maxHeartbeats 1000000 in
theorem c20_key (key pan index pin : ByteArray) (hk : ¬ key.size = 16) (w : World) : Calls Tryd.prog 20 #[.string key, .string pan, .string index, .string pin] w fun e w' => e = .returned (.tuple #[.string (mkB []), .int .i64 30]) ∧ Below w.heap.size w w' := by
  have C45 := Lib.hid (c45_bad key hk)
  go_enter Tryd.func20, Tryd.ntmps20
  go_wp2_with (first
    | (go_at_call 45; (with_reducible refine (C45.out _).mono ?_); rintro e w45 ⟨rfl, hb⟩; have HB := Lib.hid hb; clear hb))
  go_ret2
  exact ⟨rfl, HB.out⟩
set_option maxRecDepth 100000 in
set_option maxHeartbeats 1000000 in
theorem c20_err (key pan index pin : ByteArray) (bp bq : Bool) (s1 : pan.size ≤ 140737488355328) (s2 : index.size ≤ 140737488355328) (s3 : pin.size ≤ 140737488355328) (hk : key.size = 16) (hp : digB (bl pan) 13 19 = bp) (hq : digB (bl pin) 4 12 = bq) (r : Int)
    (h : bp = false ∧ r = 50 ∨ bp = true ∧ bq = false ∧ r = 60 ∨ bp = true ∧ bq = true ∧ withinB (bl index) (bl (sgnB.extract 1 7)) 1 1 = false ∧ r = 1) (w : World) :
    Calls Tryd.prog 20 #[.string key, .string pan, .string index, .string pin] w fun e w' => e = .returned (.tuple #[.string (mkB []), .int .i64 r]) ∧ Below w.heap.size w w' := by
  have C45 := Lib.hid (c45 key hk)
  have C29 := Lib.hid (c29 pan s1 · bp hp)
  have C28 := Lib.hid (c28 pin s3 · bq hq)
  have C31 := Lib.hid (c31v index s2)
  clear hp hq s1 s2 s3 hk
  rcases h with ⟨rfl, rfl⟩ | ⟨rfl, rfl, rfl⟩ | ⟨rfl, rfl, hx, rfl⟩
  · go_enter Tryd.func20, Tryd.ntmps20
    go_wp2_with (first
      | (go_at_call 45; (with_reducible refine (C45.out _).mono ?_); rintro e w45 ⟨g, rfl, hK, hb⟩; have HB := Lib.hid hb; clear hK hb)
      | (go_at_call 29; (with_reducible refine (C29.out _).mono ?_); rintro e w' ⟨n29, rfl, rfl⟩))
    go_ret2
    exact ⟨rfl, HB.out.trans (below_drewN2 _ _ _)⟩
  · go_enter Tryd.func20, Tryd.ntmps20
    go_wp2_with (first
      | (go_at_call 45; (with_reducible refine (C45.out _).mono ?_); rintro e w45 ⟨g, rfl, hK, hb⟩; have HB := Lib.hid hb; clear hK hb)
      | (go_at_call 29; (with_reducible refine (C29.out _).mono ?_); rintro e w' ⟨n29, rfl, rfl⟩)
      | (go_at_call 28; (with_reducible refine (C28.out _).mono ?_); rintro e w' ⟨n28, rfl, rfl⟩))
    go_ret2
    exact ⟨rfl, HB.out.trans (below_drewN2 _ _ _)⟩
  · rw [hx] at C31
    clear hx
    go_enter Tryd.func20, Tryd.ntmps20
    go_wp2_with (first
      | (go_at_call 45; (with_reducible refine (C45.out _).mono ?_); rintro e w45 ⟨g, rfl, hK, hb⟩; have HB := Lib.hid hb; clear hK hb)
      | (go_at_call 29; (with_reducible refine (C29.out _).mono ?_); rintro e w' ⟨n29, rfl, rfl⟩)
      | (go_at_call 28; (with_reducible refine (C28.out _).mono ?_); rintro e w' ⟨n28, rfl, rfl⟩)
      | (go_at_call 31; (with_reducible refine (C31.out _).mono ?_); rintro e w31 ⟨rfl, hb⟩; have HB31 := Lib.hid hb; clear hb))
    go_ret2
    exact ⟨rfl, below_next (HB.out.trans (below_drewN2 _ _ _)) HB31.out⟩
theorem c20 (key pan index pin : ByteArray) (s1 : pan.size ≤ 140737488355328) (s2 : index.size ≤ 140737488355328) (s3 : pin.size ≤ 140737488355328) (w : World) :
    Calls Tryd.prog 20 #[.string key, .string pan, .string index, .string pin] w fun e w' => e = .returned (.tuple #[.string (valueR key pan index pin).1, .int .i64 (valueR key pan index pin).2]) ∧ Below w.heap.size w w' := by
  unfold valueR
  by_cases hk : key.size = 16
  · rw [if_pos hk]
    cases hp : digB (bl pan) 13 19
    · rw [if_neg (by decide)]
      exact c20_err key pan index pin false _ s1 s2 s3 hk hp rfl 50 (Or.inl ⟨rfl, rfl⟩) w
    · rw [if_pos rfl]
      cases hq : digB (bl pin) 4 12
      · rw [if_neg (by decide)]
        exact c20_err key pan index pin true false s1 s2 s3 hk hp hq 60 (Or.inr (Or.inl ⟨rfl, rfl, rfl⟩)) w
      · rw [if_pos rfl]
        cases hx : withinB (bl index) (bl (sgnB.extract 1 7)) 1 1
        · rw [if_neg (by decide)]
          exact c20_err key pan index pin true true s1 s2 s3 hk hp hq 1 (Or.inr (Or.inr ⟨rfl, rfl, hx, rfl⟩)) w
        · rw [if_pos rfl]
          exact val_walk key pan index pin w hk hp hq hx
  · rw [if_neg hk]
    exact c20_key key pan index pin hk w
theorem turnstilelaw6_PinValues.pure : True := trivial
set_option maxRecDepth 100000 in
set_option maxHeartbeats 1000000 in
theorem turnstilelaw6_PinValues.walk (_ : True) (a0 a1 a2 a3 : ByteArray) (w : World) (s0 : a0.size ≤ 140737488351232) (s1 : a1.size ≤ 140737488351232) (s2 : a2.size ≤ 140737488351232) (s3 : a3.size ≤ 140737488351232) :
    Calls Tryd.prog 5 #[.string a0, .string a1, .string a2, .string a3] w fun e w' => e = .returned (.bool true) ∧ Below w.heap.size w w' := by
  have C9 := Lib.hid fun w => turnstilelaw6_known.calls 1000 true w (lawknownK_eq 1000 (by omega))
  have C20 := Lib.hid (c20 a0 a1 a2 a3 (by omega) (by omega) (by omega))
  have C21 := Lib.hid (c21 a0 a1 a2 a3 (by omega) (by omega) (by omega))
  generalize (valueR a0 a1 a2 a3).1 = V at *
  generalize (valueR a0 a1 a2 a3).2 = R at *
  clear s0 s1 s2 s3
  go_enter Tryd.func5, Tryd.ntmps5
  go_wp2_with (first
    | (go_at_call 9; (with_reducible refine (C9.out _).mono ?_); rintro e w9 ⟨rfl, hb⟩; have HB9 := Lib.hid hb; clear hb)
    | (go_at_call 20; (with_reducible refine (C20.out _).mono ?_); rintro e w20 ⟨rfl, hb⟩; have HB20 := Lib.hid hb; clear hb)
    | (go_at_call 21; (with_reducible refine (C21.out _).mono ?_); rintro e w21 ⟨rfl, hb⟩; have HB21 := Lib.hid hb; clear hb))
  go_ret
  refine ⟨?_, below_next (below_next HB9.out HB20.out) HB21.out⟩
  first | rfl | simp
end Go.Proofs.YtkjjdodnkcmeiaaDoor.PX
