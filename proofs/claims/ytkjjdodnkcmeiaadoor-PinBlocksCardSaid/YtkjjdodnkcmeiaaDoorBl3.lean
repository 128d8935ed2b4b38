/- The walk of pin.Block, formats 1 and 3: the filling is looked at. -/

import Derived.Test.YtkjjdodnkcmeiaaDoorBl2
namespace Go.Proofs.YtkjjdodnkcmeiaaDoor.PX
open Go.RowKit Go.Proofs.YtkjjdodnkcmeiaaDoorW.PrintWords Go.Proofs.YtkjjdodnkcmeiaaDoorW.PrintLast Go.Proofs.YtkjjdodnkcmeiaaDoorW.PrintMore
theorem c31 (s of : ByteArray) (n : Nat) (hs : s.size ≤ 140737488355328) (b : Bool) (h : withinB (bl s) (bl of) (14 - (n : Int)) (14 - (n : Int)) = b) (w : World) :
    Calls Tryd.prog 31 #[.string s, .string of, .int .i64 (14 - (n : Int)), .int .i64 (14 - (n : Int))] w fun e w' => ∃ m, e = .returned (.bool b) ∧ w' = w.drewN m := by
  refine (pin_within.calls (s.size + 1) s of _ _ b w (by rw [within_eq s of _ _ hs _ (by omega), h])).mono ?_
  rintro e w' ⟨rfl, ⟨m, rfl⟩⟩
  exact ⟨m, rfl, rfl⟩
theorem below_one {w w0 w1 w2 : World} (h0 : Below w.heap.size w w0) (h1 : Below w0.heap.size w0 w1) (h2 : Below w1.heap.size w1 w2) : Below w.heap.size w w2 := by
  have k1 := h0.trans (h1.mono h0.size)
  exact k1.trans (h2.mono k1.size)
theorem size_drewN' (w : World) (n : Nat) : (w.drewN n).heap.size = w.heap.size := by simp
theorem ofB_cell (w : World) (n j : Nat) : ((w.drewN n).alloc (.cells ofB 53)).cell? ⟨w.heap.size, j, none⟩ = ofB[j]? := by
  have h : ((w.drewN n).alloc (.cells ofB 53)).heap[w.heap.size]? = some (.cells ofB 53 (0, 0)) := by
    have := heap_alloc_new (w.drewN n) (.cells ofB 53)
    rwa [size_drewN'] at this
  exact cell_of_row _ _ j _ _ _ h

set_option maxRecDepth 100000 in
set_option maxHeartbeats 1000000 in
theorem blk_fill_1 (a1 a2 a3 : ByteArray) (w : World) (hs1 : a1.size ≤ 140737488355328) (hs3 : a3.size ≤ 140737488355328) (h28 : digB (bl a1) 4 12 = true) (h31 : withinB (bl a3) (bl ((⟨#[48, 49, 50, 51, 52, 53, 54, 55, 56, 57, 65, 66, 67, 68, 69, 70]⟩ : ByteArray))) (14 - (a1.size : Int)) (14 - (a1.size : Int)) = false) :
    Calls Tryd.prog 10 #[.int .i64 1, .string a1, .string a2, .string a3] w fun e w' => e = .returned (.tuple #[.string ⟨#[]⟩, .int .i64 62]) ∧ Below w.heap.size w w' := by
  have C27 := Lib.hid c27_1
  have H28 := Lib.hid h28
  have hl : a1.size ≤ 12 := by have := (digB_len h28).2.1; rwa [bl_length] at this
  have C31 := Lib.hid (c31 a3 ((⟨#[48, 49, 50, 51, 52, 53, 54, 55, 56, 57, 65, 66, 67, 68, 69, 70]⟩ : ByteArray)) a1.size hs3 _ h31)
  clear h28 h31
  have F1 : ∀ n, ((w.drewN n).alloc (.cells ofB 53)).cell? ⟨w.heap.size, 1, none⟩ = some (.string ((⟨#[48, 49, 50, 51, 52, 53, 54, 55, 56, 57, 65, 66, 67, 68, 69, 70]⟩ : ByteArray))) := fun n => ofB_cell w n 1
  go_enter Tryd.func10, Tryd.ntmps10
  go_wp2_with (first | (go_at_call 27; refine (C27.out _).mono ?_; rintro e w' ⟨n, rfl, rfl⟩) | (refine store_fresh rfl 53 (.tmp 12) (.tmp 21) rfl ofB 53 _ w.heap.size rfl (by simp) rfl info53 rfl ofB_one ?_) | (go_at_call 28; refine (c28 a1 hs1 _ _ H28.out).mono ?_; rintro e w' ⟨n28, rfl, rfl⟩) | (go_at_call 31; (with_reducible refine (C31.out _).mono ?_); rintro e w' ⟨n31, rfl, rfl⟩))
  go_ret2
  exact ⟨rfl, by repeat (first | exact Below.refl _ _ | apply below_alloc | apply pw_below_drewN)⟩

set_option maxRecDepth 100000 in
set_option maxHeartbeats 1000000 in
theorem blk_ok_1 (a1 a2 a3 : ByteArray) (w : World) (hs1 : a1.size ≤ 140737488355328) (hs3 : a3.size ≤ 140737488355328) (h28 : digB (bl a1) 4 12 = true) (h31 : withinB (bl a3) (bl ((⟨#[48, 49, 50, 51, 52, 53, 54, 55, 56, 57, 65, 66, 67, 68, 69, 70]⟩ : ByteArray))) (14 - (a1.size : Int)) (14 - (a1.size : Int)) = true) (hK : (blkS 1 a1 a3).length = 16 ∧ ∀ c ∈ blkS 1 a1 a3, isSgn c = true) :
    Calls Tryd.prog 10 #[.int .i64 1, .string a1, .string a2, .string a3] w fun e w' => e = .returned (.tuple #[.string ⟨(packL ((blkS 1 a1 a3).map nib)).toArray⟩, .int .i64 0]) ∧ Below w.heap.size w w' := by
  have C27 := Lib.hid c27_1
  have H28 := Lib.hid h28
  have hl : a1.size ≤ 12 := by have := (digB_len h28).2.1; rwa [bl_length] at this
  have C31 := Lib.hid (c31 a3 ((⟨#[48, 49, 50, 51, 52, 53, 54, 55, 56, 57, 65, 66, 67, 68, 69, 70]⟩ : ByteArray)) a1.size hs3 _ h31)
  have C33 := Lib.hid (c33_blk 1 a1 a3 hK.1)
  have C32 := Lib.hid (fun w => c32 w (blkS 1 a1 a3) (by omega) hK.2)
  clear h28 h31 hK
  have F1 : ∀ n, ((w.drewN n).alloc (.cells ofB 53)).cell? ⟨w.heap.size, 1, none⟩ = some (.string ((⟨#[48, 49, 50, 51, 52, 53, 54, 55, 56, 57, 65, 66, 67, 68, 69, 70]⟩ : ByteArray))) := fun n => ofB_cell w n 1
  have w1 : IntKind.i64.wrap 2 = 2 := by decide
  have w2 : IntKind.i64.wrap ((a1.size : Int) + 1) = (a1.size : Int) + 1 := by rw [IntKind.wrap_i64]; omega
  have s2 := slice_sgn a1.size (by omega)
  go_enter Tryd.func10, Tryd.ntmps10
  go_wp2_with (first | (go_at_call 27; refine (C27.out _).mono ?_; rintro e w' ⟨n, rfl, rfl⟩) | (refine store_fresh rfl 53 (.tmp 12) (.tmp 21) rfl ofB 53 _ w.heap.size rfl (by simp) rfl info53 rfl ofB_one ?_) | (go_at_call 28; refine (c28 a1 hs1 _ _ H28.out).mono ?_; rintro e w' ⟨n28, rfl, rfl⟩) | (go_at_call 31; (with_reducible refine (C31.out _).mono ?_); rintro e w' ⟨n31, rfl, rfl⟩))
  obtain ⟨wv, hW⟩ : ∃ wv : World, (((w.drewN n).alloc (.cells ofB 53)).drewN (n28 + n31)) = wv := ⟨_, rfl⟩
  rw [hW]
  have HW : Hid (Below w.heap.size w wv) := by rw [← hW]; show Below _ _ _; repeat (first | exact Below.refl _ _ | apply below_alloc | apply pw_below_drewN)
  clear hW F1
  go_region_law (first | (go_simp; go_at_call 33; (with_reducible refine (C33.out _).mono ?_); rintro e w33 ⟨rfl, hb33⟩; have HB33 := Lib.hid hb33; clear hb33) | (go_simp; go_at_call 32; (with_reducible refine (C32.out _).mono ?_); rintro e w32 ⟨rfl, hb32⟩; have HB32 := Lib.hid hb32; clear hb32))
  go_wp2
  go_ret2
  exact ⟨rfl, below_one HW.out HB33.out HB32.out⟩

set_option maxRecDepth 100000 in
set_option maxHeartbeats 1000000 in
theorem blk_fill_3 (a1 a2 a3 : ByteArray) (w : World) (hs1 : a1.size ≤ 140737488355328) (hs2 : a2.size ≤ 140737488355328) (h29 : digB (bl a2) 13 19 = true) (hs3 : a3.size ≤ 140737488355328) (h28 : digB (bl a1) 4 12 = true) (h31 : withinB (bl a3) (bl ((⟨#[48, 49, 50, 51, 52, 53, 54, 55, 56, 57, 65, 66, 67, 68, 69, 70]⟩ : ByteArray).extract 10 16)) (14 - (a1.size : Int)) (14 - (a1.size : Int)) = false) :
    Calls Tryd.prog 10 #[.int .i64 3, .string a1, .string a2, .string a3] w fun e w' => e = .returned (.tuple #[.string ⟨#[]⟩, .int .i64 62]) ∧ Below w.heap.size w w' := by
  have C27 := Lib.hid c27_3
  have H28 := Lib.hid h28
  have H29 := Lib.hid h29
  have hl : a1.size ≤ 12 := by have := (digB_len h28).2.1; rwa [bl_length] at this
  have C31 := Lib.hid (c31 a3 ((⟨#[48, 49, 50, 51, 52, 53, 54, 55, 56, 57, 65, 66, 67, 68, 69, 70]⟩ : ByteArray).extract 10 16) a1.size hs3 _ h31)
  clear h28 h29 h31
  have F1 : ∀ n, ((w.drewN n).alloc (.cells ofB 53)).cell? ⟨w.heap.size, 3, none⟩ = some (.string ((⟨#[48, 49, 50, 51, 52, 53, 54, 55, 56, 57, 65, 66, 67, 68, 69, 70]⟩ : ByteArray).extract 10 16)) := fun n => ofB_cell w n 3
  go_enter Tryd.func10, Tryd.ntmps10
  go_wp2_with (first | (go_at_call 27; refine (C27.out _).mono ?_; rintro e w' ⟨n, rfl, rfl⟩) | (refine store_fresh rfl 53 (.tmp 12) (.tmp 21) rfl ofB 53 _ w.heap.size rfl (by simp) rfl info53 rfl ofB_one ?_) | (go_at_call 28; refine (c28 a1 hs1 _ _ H28.out).mono ?_; rintro e w' ⟨n28, rfl, rfl⟩) | (go_at_call 29; refine (c29 a2 hs2 _ _ H29.out).mono ?_; rintro e w' ⟨n29, rfl, rfl⟩) | (go_at_call 31; (with_reducible refine (C31.out _).mono ?_); rintro e w' ⟨n31, rfl, rfl⟩))
  go_ret2
  exact ⟨rfl, by repeat (first | exact Below.refl _ _ | apply below_alloc | apply pw_below_drewN)⟩

set_option maxRecDepth 100000 in
set_option maxHeartbeats 1000000 in
theorem blk_ok_3 (a1 a2 a3 : ByteArray) (w : World) (hs1 : a1.size ≤ 140737488355328) (hs2 : a2.size ≤ 140737488355328) (h29 : digB (bl a2) 13 19 = true) (hs3 : a3.size ≤ 140737488355328) (h28 : digB (bl a1) 4 12 = true) (h31 : withinB (bl a3) (bl ((⟨#[48, 49, 50, 51, 52, 53, 54, 55, 56, 57, 65, 66, 67, 68, 69, 70]⟩ : ByteArray).extract 10 16)) (14 - (a1.size : Int)) (14 - (a1.size : Int)) = true) (hK : (blkS 3 a1 a3).length = 16 ∧ ∀ c ∈ blkS 3 a1 a3, isSgn c = true) :
    Calls Tryd.prog 10 #[.int .i64 3, .string a1, .string a2, .string a3] w fun e w' => e = .returned (.tuple #[.string ⟨(xorB (packL ((blkS 3 a1 a3).map nib)) (packL (panL (bl a2)))).toArray⟩, .int .i64 0]) ∧ Below w.heap.size w w' := by
  have C27 := Lib.hid c27_3
  have H28 := Lib.hid h28
  have H29 := Lib.hid h29
  have hl : a1.size ≤ 12 := by have := (digB_len h28).2.1; rwa [bl_length] at this
  have C31 := Lib.hid (c31 a3 ((⟨#[48, 49, 50, 51, 52, 53, 54, 55, 56, 57, 65, 66, 67, 68, 69, 70]⟩ : ByteArray).extract 10 16) a1.size hs3 _ h31)
  have C33 := Lib.hid (c33_blk 3 a1 a3 hK.1)
  have C32 := Lib.hid (fun w => c32 w (blkS 3 a1 a3) (by omega) hK.2)
  have C34 := Lib.hid (fun w => c34 w (packL ((blkS 3 a1 a3).map nib)) a2 (by rw [packL_length, List.length_map, hK.1]) h29)
  clear h28 h29 h31 hK
  have F1 : ∀ n, ((w.drewN n).alloc (.cells ofB 53)).cell? ⟨w.heap.size, 3, none⟩ = some (.string ((⟨#[48, 49, 50, 51, 52, 53, 54, 55, 56, 57, 65, 66, 67, 68, 69, 70]⟩ : ByteArray).extract 10 16)) := fun n => ofB_cell w n 3
  have w1 : IntKind.i64.wrap 4 = 4 := by decide
  have w2 : IntKind.i64.wrap ((a1.size : Int) + 1) = (a1.size : Int) + 1 := by rw [IntKind.wrap_i64]; omega
  have s2 := slice_sgn a1.size (by omega)
  go_enter Tryd.func10, Tryd.ntmps10
  go_wp2_with (first | (go_at_call 27; refine (C27.out _).mono ?_; rintro e w' ⟨n, rfl, rfl⟩) | (refine store_fresh rfl 53 (.tmp 12) (.tmp 21) rfl ofB 53 _ w.heap.size rfl (by simp) rfl info53 rfl ofB_one ?_) | (go_at_call 28; refine (c28 a1 hs1 _ _ H28.out).mono ?_; rintro e w' ⟨n28, rfl, rfl⟩) | (go_at_call 29; refine (c29 a2 hs2 _ _ H29.out).mono ?_; rintro e w' ⟨n29, rfl, rfl⟩) | (go_at_call 31; (with_reducible refine (C31.out _).mono ?_); rintro e w' ⟨n31, rfl, rfl⟩))
  obtain ⟨wv, hW⟩ : ∃ wv : World, (((w.drewN n).alloc (.cells ofB 53)).drewN (n28 + n29 + n31)) = wv := ⟨_, rfl⟩
  rw [hW]
  have HW : Hid (Below w.heap.size w wv) := by rw [← hW]; show Below _ _ _; repeat (first | exact Below.refl _ _ | apply below_alloc | apply pw_below_drewN)
  clear hW F1
  go_region_law (first | (go_simp; go_at_call 33; (with_reducible refine (C33.out _).mono ?_); rintro e w33 ⟨rfl, hb33⟩; have HB33 := Lib.hid hb33; clear hb33) | (go_simp; go_at_call 32; (with_reducible refine (C32.out _).mono ?_); rintro e w32 ⟨rfl, hb32⟩; have HB32 := Lib.hid hb32; clear hb32))
  go_wp2_with (first | (go_at_call 34; (with_reducible refine (C34.out _).mono ?_); rintro e w34 ⟨rfl, hb34⟩))
  have HB34 := Lib.hid hb34
  clear hb34
  go_ret2
  exact ⟨rfl, (below_one HW.out HB33.out HB32.out).trans (HB34.out.mono (below_one HW.out HB33.out HB32.out).size)⟩
end Go.Proofs.YtkjjdodnkcmeiaaDoor.PX
