/- The walks of pin.Seal and pin.Unseal, and what they answer, as plain Lean functions. -/
import Derived.Test.YtkjjdodnkcmeiaaGreatDoorCi5
import Derived.Test.YtkjjdodnkcmeiaaGreatDoorPur6
namespace Go.Proofs.YtkjjdodnkcmeiaaGreatDoor.PX
open Go.RowKit Go.Proofs.YtkjjdodnkcmeiaaGreatDoorW.PrintWords Go.Proofs.YtkjjdodnkcmeiaaGreatDoorW.PrintLast Go.Proofs.YtkjjdodnkcmeiaaGreatDoorW.PrintMore

/-- The round keys of a key's first and second part. -/
def kOne (key : ByteArray) : Nat → Nat := keyN ((bl key).take 8)
def kTwo (key : ByteArray) : Nat → Nat := keyN (((bl key).drop 8).take 8)
theorem c45_bad (key : ByteArray) (hk : ¬ key.size = 16) (w : World) : Calls Tryz.prog 14 #[.string key] w fun e w' => e = .returned (.tuple #[.pointer none, .int .i64 30]) ∧ Below w.heap.size w w' := by
  have hk' : ¬ ((key.size : Int) = 16) := by omega
  go_enter Tryz.func14, Tryz.ntmps14
  go_wp2
  go_ret2
  exact ⟨rfl, Below.refl _ _⟩
theorem c45 (key : ByteArray) (hk : key.size = 16) (w : World) : Calls Tryz.prog 14 #[.string key] w fun e w' => ∃ g, e = .returned (.tuple #[.pointer (some ⟨g, 0, none⟩), .int .i64 0]) ∧ KeyAt w' g (kOne key) (kTwo key) ∧ Below w.heap.size w w' := by
  have hk' : (key.size : Int) = 16 := by omega
  have C24 := Lib.hid (c24 key hk)
  go_enter Tryz.func14, Tryz.ntmps14
  go_wp2_with (first | (go_at_call 30; (with_reducible refine (C24.out _).mono ?_); rintro e w24 ⟨g, rfl, _, hK, hb⟩; have HK := Lib.hid hK; have HB := Lib.hid hb; clear hK hb))
  go_ret2
  exact ⟨g, rfl, HK.out, HB.out⟩
theorem c10 (a0 : Int) (a1 a2 a3 : ByteArray) (s1 : a1.size ≤ 140737488355328) (s2 : a2.size ≤ 140737488355328) (s3 : a3.size ≤ 140737488355328) (w : World) :
    Calls Tryz.prog 12 #[.int .i64 a0, .string a1, .string a2, .string a3] w fun e w' => e = .returned (.tuple #[.string (blockR a0 a1 a2 a3).1, .int .i64 (blockR a0 a1 a2 a3).2]) ∧ Below w.heap.size w w' :=
  pin_Block.calls a0 a1 a2 a3 (blockR a0 a1 a2 a3).1 (blockR a0 a1 a2 a3).2 w (by unfold pin_Block.f; rw [if_pos ⟨s1, s2, s3⟩])
theorem c12 (a0 : Int) (blk pan : ByteArray) (s2 : pan.size ≤ 140737488355328) (w : World) :
    Calls Tryz.prog 13 #[.int .i64 a0, .string blk, .string pan] w fun e w' => e = .returned (.tuple #[.string (openR a0 blk pan).1, .int .i64 (openR a0 blk pan).2]) ∧ Below w.heap.size w w' :=
  pin_Open.calls (101 + pan.size) a0 blk pan (openR a0 blk pan).1 (openR a0 blk pan).2 w (popen_eq a0 blk pan s2 _ (by omega))
/-- A block that is told to be one has eight bytes. -/
theorem blockR_size (a0 : Int) (a1 a2 a3 : ByteArray) (h : (blockR a0 a1 a2 a3).2 = 0) : (blockR a0 a1 a2 a3).1.size = 8 := by
  have key : a0 = 0 ∨ a0 = 1 ∨ a0 = 3 → digB (bl a1) 4 12 = true → (a0 ≠ 1 → digB (bl a2) 13 19 = true) → FillOk a0 a1.size a3 → (blockR a0 a1 a2 a3).1.size = 8 := by
    intro h1 h2 h3 h4
    rw [block_ok a0 a1 a2 a3 h1 h2 h3 h4]
    show (bsOf (packL (sixteenN a0 a1 a2 a3))).size = 8
    rw [bsOf_size, packL_length, (sixteenN_ok a0 a1 a2 a3 h1 h2 h3 h4).1]
  by_cases h1 : a0 = 0 ∨ a0 = 1 ∨ a0 = 3
  · by_cases h2 : digB (bl a1) 4 12 = true
    · obtain ⟨l1, l2, l3⟩ := digB_len h2
      rw [bl_length] at l1 l2
      by_cases h3 : a0 ≠ 1 ∧ digB (bl a2) 13 19 = false
      · unfold blockR at h
        rw [if_pos h1, if_pos h2, if_pos h3] at h
        exact absurd h (by decide)
      · have h3' : a0 ≠ 1 → digB (bl a2) 13 19 = true := fun e => by
          cases hd : digB (bl a2) 13 19 with
          | true => rfl
          | false => exact absurd ⟨e, hd⟩ h3
        refine key h1 h2 h3' ?_
        unfold blockR at h
        rw [if_pos h1, if_pos h2, if_neg h3] at h
        by_cases h0 : a0 = 0
        · rw [if_pos h0] at h
          by_cases h4 : a3.size = 0
          · exact ⟨fun _ => h4, fun e => absurd h0 e⟩
          · rw [if_neg h4] at h
            exact absurd h (by decide)
        · rw [if_neg h0] at h
          by_cases h4 : withinB (bl a3) (bl (if a0 = 1 then sgnB else sgnB.extract 10 16)) (14 - (a1.size : Int)) (14 - (a1.size : Int)) = true
          · unfold withinB at h4
            rw [Bool.and_eq_true, Bool.and_eq_true, decide_eq_true_eq, decide_eq_true_eq, List.all_eq_true, bl_length] at h4
            obtain ⟨⟨q1, q2⟩, q3⟩ := h4
            refine ⟨fun e => absurd e h0, fun _ => ⟨by omega, ?_, ?_⟩⟩
            · intro c hc
              have := q1 c hc
              by_cases e1 : a0 = 1
              · rw [if_pos e1] at this; exact this
              · rw [if_neg e1] at this; exact (fills3 c this).2
            · intro e3 c hc
              have := q1 c hc
              rw [if_neg (by omega)] at this
              exact this
          · rw [if_neg h4] at h
            exact absurd h (by decide)
    · unfold blockR at h
      rw [if_pos h1, if_neg h2] at h
      exact absurd h (by decide)
  · unfold blockR at h
    rw [if_neg h1] at h
    exact absurd h (by decide)

/-! ### Seal -/
def sealR (key : ByteArray) (f : Int) (pin pan fill : ByteArray) : ByteArray × Int :=
  if key.size = 16 then
    (if (blockR f pin pan fill).2 = 0 then (sealN (kOne key) (kTwo key) (blockR f pin pan fill).1 false, 0) else (mkB [], (blockR f pin pan fill).2))
  else (mkB [], 30)
def pin_Seal.f (a0 : ByteArray) (a1 : Int) (a2 a3 a4 : ByteArray) : Option (ByteArray × Int) :=
  if a2.size ≤ 140737488355328 ∧ a3.size ≤ 140737488355328 ∧ a4.size ≤ 140737488355328 then some (sealR a0 a1 a2 a3 a4) else none
def unsealR (key : ByteArray) (f : Int) (blk pan : ByteArray) : ByteArray × Int :=
  if key.size = 16 then (if blk.size = 8 then openR f (sealN (kOne key) (kTwo key) blk true) pan else (mkB [], 61)) else (mkB [], 30)
def pin_Unseal.f (a0 : ByteArray) (a1 : Int) (a2 a3 : ByteArray) : Option (ByteArray × Int) :=
  if a2.size ≤ 140737488355328 ∧ a3.size ≤ 140737488355328 then some (unsealR a0 a1 a2 a3) else none
theorem kOne_lt (key : ByteArray) (j : Nat) : kOne key j < 18446744073709551616 := keyN_lt _ _
theorem kTwo_lt (key : ByteArray) (j : Nat) : kTwo key j < 18446744073709551616 := keyN_lt _ _
set_option maxRecDepth 100000 in
set_option maxHeartbeats 1000000 in
theorem pin_Seal.calls (a0 : ByteArray) (a1 : Int) (a2 a3 a4 : ByteArray) (r1 : ByteArray) (r2 : Int) (w : World) (h : pin_Seal.f a0 a1 a2 a3 a4 = some (r1, r2)) :
    Calls Tryz.prog 6 #[.string a0, .int .i64 a1, .string a2, .string a3, .string a4] w fun e w' => e = .returned (.tuple #[.string r1, .int .i64 r2]) ∧ Below w.heap.size w w' := by
  unfold pin_Seal.f at h
  by_cases hs : a2.size ≤ 140737488355328 ∧ a3.size ≤ 140737488355328 ∧ a4.size ≤ 140737488355328
  · rw [if_pos hs] at h
    obtain ⟨s2, s3, s4⟩ := hs
    have h' := Option.some.inj h
    clear h
    unfold sealR at h'
    by_cases hk : a0.size = 16
    · rw [if_pos hk] at h'
      have C45 := Lib.hid (c45 a0 hk)
      have C10 := Lib.hid (c10 a1 a2 a3 a4 s2 s3 s4)
      have hsz := blockR_size a1 a2 a3 a4
      generalize blockR a1 a2 a3 a4 = B at *
      obtain ⟨b, e⟩ := B
      dsimp only at h' hsz C10
      by_cases he : e = 0
      · rw [if_pos he] at h'
        obtain ⟨rfl, rfl⟩ := Prod.mk.inj h'
        have h8 := hsz he
        clear hsz h' s2 s3 s4
        subst he
        go_enter Tryz.func6, Tryz.ntmps6
        go_wp2_with (first
          | (go_at_call 14; (with_reducible refine (C45.out _).mono ?_); rintro e w45 ⟨g, rfl, hK, hb⟩; have HK := Lib.hid hK; have HB := Lib.hid hb; clear hK hb)
          | (go_at_call 12; (with_reducible refine (C10.out _).mono ?_); rintro e w10 ⟨rfl, hb⟩; have HB10 := Lib.hid hb; clear hb)
          | (go_at_call 15; (with_reducible refine (c25 g (kOne a0) (kTwo a0) (kOne_lt a0) (kTwo_lt a0) b h8 _ (HK.out.below HB10.out)).mono ?_); rintro e w25 ⟨rfl, hb⟩; have HB25 := Lib.hid hb; clear hb))
        go_ret2
        exact ⟨rfl, below_next (below_next HB.out HB10.out) HB25.out⟩
      · rw [if_neg he] at h'
        obtain ⟨rfl, rfl⟩ := Prod.mk.inj h'
        have hne : (e != 0) = true := bne_iff_ne.mpr he
        clear hsz h' s2 s3 s4
        go_enter Tryz.func6, Tryz.ntmps6
        go_wp2_with (first
          | (go_at_call 14; (with_reducible refine (C45.out _).mono ?_); rintro e w45 ⟨g, rfl, hK, hb⟩; have HK := Lib.hid hK; have HB := Lib.hid hb; clear hK hb)
          | (go_at_call 12; (with_reducible refine (C10.out _).mono ?_); rintro e w10 ⟨rfl, hb⟩; have HB10 := Lib.hid hb; clear hb))
        go_ret2
        exact ⟨rfl, below_next HB.out HB10.out⟩
    · rw [if_neg hk] at h'
      obtain ⟨rfl, rfl⟩ := Prod.mk.inj h'
      have C45 := Lib.hid (c45_bad a0 hk)
      go_enter Tryz.func6, Tryz.ntmps6
      go_wp2_with (first
        | (go_at_call 14; (with_reducible refine (C45.out _).mono ?_); rintro e w45 ⟨rfl, hb⟩; have HB := Lib.hid hb; clear hb))
      go_ret2
      exact ⟨rfl, HB.out⟩
  · rw [if_neg hs] at h
    cases h
set_option maxRecDepth 100000 in
set_option maxHeartbeats 1000000 in
theorem pin_Unseal.calls (a0 : ByteArray) (a1 : Int) (a2 a3 : ByteArray) (r1 : ByteArray) (r2 : Int) (w : World) (h : pin_Unseal.f a0 a1 a2 a3 = some (r1, r2)) :
    Calls Tryz.prog 8 #[.string a0, .int .i64 a1, .string a2, .string a3] w fun e w' => e = .returned (.tuple #[.string r1, .int .i64 r2]) ∧ Below w.heap.size w w' := by
  unfold pin_Unseal.f at h
  by_cases hs : a2.size ≤ 140737488355328 ∧ a3.size ≤ 140737488355328
  · rw [if_pos hs] at h
    obtain ⟨s2, s3⟩ := hs
    have h' := Option.some.inj h
    clear h
    unfold unsealR at h'
    by_cases hk : a0.size = 16
    · rw [if_pos hk] at h'
      have C45 := Lib.hid (c45 a0 hk)
      by_cases h8 : a2.size = 8
      · rw [if_pos h8] at h'
        have hn8 : ((a2.size : Int) != 8) = false := bne_eq_false_iff_eq.mpr (by omega)
        have C12 := Lib.hid (c12 a1 (sealN (kOne a0) (kTwo a0) a2 true) a3 s3)
        rw [h'] at C12
        clear h' s2 s3
        go_enter Tryz.func8, Tryz.ntmps8
        go_wp2_with (first
          | (go_at_call 14; (with_reducible refine (C45.out _).mono ?_); rintro e w45 ⟨g, rfl, hK, hb⟩; have HK := Lib.hid hK; have HB := Lib.hid hb; clear hK hb)
          | (go_at_call 18; (with_reducible refine (c47 g (kOne a0) (kTwo a0) (kOne_lt a0) (kTwo_lt a0) a2 h8 _ HK.out).mono ?_); rintro e w47 ⟨rfl, hb⟩; have HB47 := Lib.hid hb; clear hb)
          | (go_at_call 13; (with_reducible refine (C12.out _).mono ?_); rintro e w12 ⟨rfl, hb⟩; have HB12 := Lib.hid hb; clear hb))
        go_ret2
        exact ⟨rfl, below_next (below_next HB.out HB47.out) HB12.out⟩
      · rw [if_neg h8] at h'
        obtain ⟨rfl, rfl⟩ := Prod.mk.inj h'
        have hn8 : ((a2.size : Int) != 8) = true := bne_iff_ne.mpr (by omega)
        go_enter Tryz.func8, Tryz.ntmps8
        go_wp2_with (first
          | (go_at_call 14; (with_reducible refine (C45.out _).mono ?_); rintro e w45 ⟨g, rfl, hK, hb⟩; have HK := Lib.hid hK; have HB := Lib.hid hb; clear hK hb))
        go_ret2
        exact ⟨rfl, HB.out⟩
    · rw [if_neg hk] at h'
      obtain ⟨rfl, rfl⟩ := Prod.mk.inj h'
      have C45 := Lib.hid (c45_bad a0 hk)
      go_enter Tryz.func8, Tryz.ntmps8
      go_wp2_with (first
        | (go_at_call 14; (with_reducible refine (C45.out _).mono ?_); rintro e w45 ⟨rfl, hb⟩; have HB := Lib.hid hb; clear hb))
      go_ret2
      exact ⟨rfl, HB.out⟩
  · rw [if_neg hs] at h
    cases h
end Go.Proofs.YtkjjdodnkcmeiaaGreatDoor.PX
