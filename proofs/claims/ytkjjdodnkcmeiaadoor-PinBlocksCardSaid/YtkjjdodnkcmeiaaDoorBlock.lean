/- pin.Block as a plain Lean function, and its contract, out of the walks. -/
import Derived.Test.YtkjjdodnkcmeiaaDoorBl3
namespace Go.Proofs.YtkjjdodnkcmeiaaDoor.PX
open Go.RowKit Go.Proofs.YtkjjdodnkcmeiaaDoorW.PrintWords Go.Proofs.YtkjjdodnkcmeiaaDoorW.PrintLast Go.Proofs.YtkjjdodnkcmeiaaDoorW.PrintMore
def mkB (l : List UInt8) : ByteArray := ⟨l.toArray⟩
theorem bl_mkB (l : List UInt8) : bl (mkB l) = l := rfl
theorem mkB_size (l : List UInt8) : (mkB l).size = l.length := size_mk l
def blockR (a0 : Int) (a1 a2 a3 : ByteArray) : ByteArray × Int :=
  if a0 = 0 ∨ a0 = 1 ∨ a0 = 3 then
    if digB (bl a1) 4 12 = true then
      if a0 ≠ 1 ∧ digB (bl a2) 13 19 = false then (mkB [], 50)
      else if a0 = 0 then (if a3.size = 0 then (mkB (xorB (packL ((blkS 0 a1 (effs (14 - a1.size))).map nib)) (packL (panL (bl a2)))), 0) else (mkB [], 62))
      else if withinB (bl a3) (bl (if a0 = 1 then sgnB else sgnB.extract 10 16)) (14 - (a1.size : Int)) (14 - (a1.size : Int)) = true then
        (mkB (if a0 = 1 then packL ((blkS 1 a1 a3).map nib) else xorB (packL ((blkS 3 a1 a3).map nib)) (packL (panL (bl a2)))), 0)
      else (mkB [], 62)
    else (mkB [], 60)
  else (mkB [], 61)
def pin_Block.f (a0 : Int) (a1 a2 a3 : ByteArray) : Option (ByteArray × Int) :=
  if a1.size ≤ 140737488355328 ∧ a2.size ≤ 140737488355328 ∧ a3.size ≤ 140737488355328 then some (blockR a0 a1 a2 a3) else none
theorem empty_iff (a : ByteArray) : (!a.toList.isEmpty) = !decide (a.size = 0) := by
  rw [ByteArray.toList_eq]
  have : a.data.toList.length = a.size := by simp
  cases h : a.data.toList with
  | nil => rw [h] at this; simp at this; simp [← this]
  | cons x l => rw [h] at this; simp at this; simp [← this]
theorem cat_len (f : Nat) (pin fill : ByteArray) (hf : f < 16) (hp : digB (bl pin) 4 12 = true) (of : ByteArray) (ho : ∀ c ∈ bl of, isSgn c = true) (h : withinB (bl fill) (bl of) (14 - (pin.size : Int)) (14 - (pin.size : Int)) = true) :
    (blkS f pin fill).length = 16 ∧ ∀ c ∈ blkS f pin fill, isSgn c = true := by
  have hd := digB_len hp
  rw [bl_length] at hd
  unfold withinB at h
  simp only [Bool.and_eq_true, decide_eq_true_eq, List.all_eq_true] at h
  rw [bl_length] at h
  refine blkS_ok f pin fill hf hp (by omega) (fun c hc => ho c ?_)
  have := h.1.1 c hc
  simpa using this
theorem sgnB_sgn : ∀ c ∈ bl sgnB, isSgn c = true := by
  intro c hc
  unfold isSgn
  simpa using hc
theorem sgnX_sgn : ∀ c ∈ bl (sgnB.extract 10 16), isSgn c = true := by
  intro c hc
  rw [bl_extract, List.extract_eq_take_drop] at hc
  exact sgnB_sgn c (List.mem_of_mem_drop (List.mem_of_mem_take hc))
theorem pin_Block.calls (a0 : Int) (a1 : ByteArray) (a2 : ByteArray) (a3 : ByteArray) (r1 : ByteArray) (r2 : Int) (w : World) (h : pin_Block.f a0 a1 a2 a3 = some (r1, r2)) :
    Calls Tryd.prog 10 #[.int .i64 a0, .string a1, .string a2, .string a3] w fun e w' => e = .returned (.tuple #[.string r1, .int .i64 r2]) ∧ Below w.heap.size w w' := by
  unfold pin_Block.f at h
  split at h
  · rename_i hs
    obtain ⟨s1, s2, s3⟩ := hs
    have h := Option.some.inj h
    unfold blockR at h
    by_cases hk : a0 = 0 ∨ a0 = 1 ∨ a0 = 3
    · rw [if_pos hk] at h
      by_cases h28 : digB (bl a1) 4 12 = true
      · rw [if_pos h28] at h
        rcases hk with rfl | rfl | rfl
        · by_cases h29 : digB (bl a2) 13 19 = true
          · rw [if_neg (by simp [h29]), if_pos rfl] at h
            by_cases h3 : a3.size = 0
            · rw [if_pos h3] at h
              obtain ⟨rfl, rfl⟩ := Prod.mk.inj h
              exact blk_ok_0 a1 a2 a3 w s1 s2 h28 h29 (by rw [empty_iff]; simp [h3])
            · rw [if_neg h3] at h
              obtain ⟨rfl, rfl⟩ := Prod.mk.inj h
              exact blk_fill_0 a1 a2 a3 w s1 s2 h28 h29 (by rw [empty_iff]; simp [h3])
          · have h29' : digB (bl a2) 13 19 = false := by simpa using h29
            rw [if_pos ⟨by decide, h29'⟩] at h
            obtain ⟨rfl, rfl⟩ := Prod.mk.inj h
            exact blk_pan_0 a1 a2 a3 w s1 s2 h28 h29'
        · rw [if_neg (by simp), if_neg (by decide), if_pos rfl] at h
          by_cases h31 : withinB (bl a3) (bl sgnB) (14 - (a1.size : Int)) (14 - (a1.size : Int)) = true
          · rw [if_pos h31, if_pos rfl] at h
            obtain ⟨rfl, rfl⟩ := Prod.mk.inj h
            exact blk_ok_1 a1 a2 a3 w s1 s3 h28 h31 (cat_len 1 a1 a3 (by decide) h28 sgnB sgnB_sgn h31)
          · rw [if_neg h31] at h
            obtain ⟨rfl, rfl⟩ := Prod.mk.inj h
            exact blk_fill_1 a1 a2 a3 w s1 s3 h28 (Bool.eq_false_iff.mpr h31)
        · by_cases h29 : digB (bl a2) 13 19 = true
          · rw [if_neg (by simp [h29]), if_neg (show ¬ (3 : Int) = 0 by decide), show (if (3 : Int) = 1 then sgnB else sgnB.extract 10 16) = sgnB.extract 10 16 from rfl] at h
            by_cases h31 : withinB (bl a3) (bl (sgnB.extract 10 16)) (14 - (a1.size : Int)) (14 - (a1.size : Int)) = true
            · rw [if_pos h31, if_neg (show ¬ (3 : Int) = 1 by decide)] at h
              obtain ⟨rfl, rfl⟩ := Prod.mk.inj h
              exact blk_ok_3 a1 a2 a3 w s1 s2 h29 s3 h28 h31 (cat_len 3 a1 a3 (by decide) h28 _ sgnX_sgn h31)
            · rw [if_neg h31] at h
              obtain ⟨rfl, rfl⟩ := Prod.mk.inj h
              exact blk_fill_3 a1 a2 a3 w s1 s2 h29 s3 h28 (Bool.eq_false_iff.mpr h31)
          · have h29' : digB (bl a2) 13 19 = false := by simpa using h29
            rw [if_pos ⟨by decide, h29'⟩] at h
            obtain ⟨rfl, rfl⟩ := Prod.mk.inj h
            exact blk_pan_3 a1 a2 a3 w s1 s2 h28 h29'
      · rw [if_neg h28] at h
        obtain ⟨rfl, rfl⟩ := Prod.mk.inj h
        have h28' : digB (bl a1) 4 12 = false := by simpa using h28
        rcases hk with rfl | rfl | rfl
        · exact blk_pin_0 a1 a2 a3 w s1 h28'
        · exact blk_pin_1 a1 a2 a3 w s1 h28'
        · exact blk_pin_3 a1 a2 a3 w s1 h28'
    · rw [if_neg hk] at h
      obtain ⟨rfl, rfl⟩ := Prod.mk.inj h
      exact blk_unknown a0 a1 a2 a3 w (by simp; omega)
  · cases h
end Go.Proofs.YtkjjdodnkcmeiaaDoor.PX
