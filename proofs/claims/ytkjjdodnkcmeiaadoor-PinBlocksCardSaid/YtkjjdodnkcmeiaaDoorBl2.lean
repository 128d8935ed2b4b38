/- The walk of pin.Block, the rest: fillings, and the block itself. -/
import Derived.Test.YtkjjdodnkcmeiaaDoorBlk
import Derived.Test.YtkjjdodnkcmeiaaDoorLibU
import Derived.Laws.DeepStrings4
namespace Go.Proofs.YtkjjdodnkcmeiaaDoor.PX
open Go.RowKit Go.Proofs.YtkjjdodnkcmeiaaDoorW.PrintWords Go.Proofs.YtkjjdodnkcmeiaaDoorW.PrintLast Go.Proofs.YtkjjdodnkcmeiaaDoorW.PrintMore
def effs (n : Nat) : ByteArray := ⟨(List.replicate n 70).toArray⟩
theorem repeatL_eff (n : Nat) : Lib.repeatL [70] n = List.replicate n 70 := by
  induction n with
  | zero => rfl
  | succ n ih => rw [Lib.repeatL, ih]; rfl
theorem c30 (n : Nat) (hn : n ≤ 12) (w : World) : Calls Tryd.prog 30 #[.string ⟨#[70]⟩, .int .i64 (14 - (n : Int))] w fun e w' => e = .returned (.string (effs (14 - n))) ∧ Below w.heap.size w w' := by
  have h : ((14 : Int) - (n : Int)).toNat = 14 - n := by omega
  refine strings_Repeat.calls ⟨#[70]⟩ (14 - (n : Int)) (effs (14 - n)) w ?_
  unfold strings_Repeat.f
  rw [h, if_pos ⟨by omega, by omega, by rw [show (⟨#[70]⟩ : ByteArray).size = 1 from rfl]; omega⟩]
  unfold effs
  rw [show (⟨#[70]⟩ : ByteArray).data.toList = [70] from rfl, repeatL_eff]
theorem slice_sgn (n : Nat) (hn : n + 1 ≤ 16) (W : World) : (Instr.slice 9 (.string ⟨#[48, 49, 50, 51, 52, 53, 54, 55, 56, 57, 65, 66, 67, 68, 69, 70]⟩) (some (.int .i64 (n : Int))) (some (.int .i64 ((n : Int) + 1))) none).run Tryd.prog W = .ok (.string (sgnB.extract n (n + 1))) W := by
  have hz := run_slice_string_if (P := Tryd.prog) (w := W) 9 sgnB .i64 .i64 (n : Int) ((n : Int) + 1) Tryd.underlying9
  rw [if_pos ⟨by omega, by rw [show sgnB.size = 16 from rfl]; omega⟩, if_pos ⟨by omega, by omega⟩, Int.toNat_natCast, show ((n : Int) + 1).toNat = n + 1 by omega] at hz
  exact hz
theorem below_box {w w' : World} {o : Obj} (h : Below (w.alloc o).drew.heap.size (w.alloc o).drew w') : Below w.heap.size w w' := by
  have h0 : Below w.heap.size w (w.alloc o).drew := ((Below.refl _ _).alloc (Nat.le_refl _) o).drew
  exact h0.trans (h.mono h0.size)
theorem c33 (W : World) (l : List ByteArray) (hl : l.length = 4) (ht : (l.map bl).flatten.length ≤ 1000) : Calls Tryd.prog 33 #[.slice (some ⟨W.heap.size, 0, none⟩) 4 4] ((W.alloc (.cells (l.map Value.string).toArray 9)).drew)
    fun e w' => e = .returned (.string ⟨(l.map bl).flatten.toArray⟩) ∧ Below W.heap.size W w' := by
  have h := pin_joined.calls (some ⟨W.heap.size, 0, none⟩) 4 l _ ((W.alloc (.cells (l.map Value.string).toArray 9)).drew) ?_ (by omega) (joined_eq l (by omega) (by omega))
  · rw [hl] at h
    refine h.mono ?_
    rintro e w' ⟨rfl, hb⟩
    exact ⟨rfl, below_box hb⟩
  · refine ⟨rfl, by omega, fun _ => ⟨_, rfl, fun j p hj => ⟨[.string p], rfl, rfl, fun i u hu => ?_⟩⟩⟩
    have hi : i = 0 := by
      rcases i with _ | i
      · rfl
      · simp at hu
    subst hi
    have hu' : u = .string p := by simpa using hu.symm
    subst hu'
    refine World.news_of_block (cs := (l.map Value.string).toArray) (t := 9) (fr := (0, 0)) (w := W.alloc (.cells (l.map Value.string).toArray 9)) (heap_alloc_new W _) (j * Kd.string.sz + 0) (.string p) ?_
    rw [show Kd.string.sz = 1 from rfl]
    simp [hj]
theorem c32 (w : World) (l : List UInt8) (hs : l.length ≤ 1000) (hg : ∀ c ∈ l, isSgn c = true) : Calls Tryd.prog 32 #[.string ⟨l.toArray⟩] w fun e w' => e = .returned (.string ⟨(packL (l.map nib)).toArray⟩) ∧ Below w.heap.size w w' :=
  pin_packed.calls (l.length + 1) ⟨l.toArray⟩ _ w (packed_eq ⟨l.toArray⟩ (by rw [size_mk l]; omega) hg _ (by rw [size_mk l]; omega))
theorem c34 (w : World) (l : List UInt8) (pan : ByteArray) (hl : l.length = 8) (hp : digB (bl pan) 13 19 = true) : Calls Tryd.prog 34 #[.string ⟨l.toArray⟩, .string pan] w fun e w' => e = .returned (.string ⟨(xorB l (packL (panL (bl pan)))).toArray⟩) ∧ Below w.heap.size w w' :=
  pin_summed.calls 9 ⟨l.toArray⟩ pan _ w (summed_eq ⟨l.toArray⟩ pan (by rw [size_mk l]; exact hl) hp 9 (by omega))
/-- The sixteen characters of a block, ahead of the sum. -/
def blkS (f : Nat) (pin fill : ByteArray) : List UInt8 := ([sgnB.extract f (f + 1), sgnB.extract pin.size (pin.size + 1), pin, fill].map bl).flatten
theorem sgn_at (n : Nat) (h : n < 16) : ∃ c, bl (sgnB.extract n (n + 1)) = [c] ∧ isSgn c = true ∧ nib c = n := by
  have hh : ∀ n : Fin 16, bl (sgnB.extract n.1 (n.1 + 1)) = [signAt n.1] ∧ isSgn (signAt n.1) = true ∧ nib (signAt n.1) = n.1 := by decide +kernel
  exact ⟨_, hh ⟨n, h⟩⟩
theorem blkS_ok (f : Nat) (pin fill : ByteArray) (hf : f < 16) (hp : digB (bl pin) 4 12 = true) (hl : fill.size = 14 - pin.size) (hg : ∀ c ∈ bl fill, isSgn c = true) : (blkS f pin fill).length = 16 ∧ ∀ c ∈ blkS f pin fill, isSgn c = true := by
  obtain ⟨l1, l2, l3⟩ := digB_len hp
  rw [bl_length] at l1 l2
  obtain ⟨c, e1, e2, _⟩ := sgn_at f hf
  obtain ⟨d, g1, g2, _⟩ := sgn_at pin.size (by omega)
  unfold blkS
  simp only [List.map_cons, List.map_nil, List.flatten_cons, List.flatten_nil, List.append_nil, e1, g1]
  refine ⟨by simp [bl_length]; omega, fun x hx => ?_⟩
  simp only [List.mem_append, List.mem_singleton] at hx
  rcases hx with rfl | rfl | hx | hx
  · exact e2
  · exact g2
  · exact dig_sgn x (l3 x hx)
  · exact hg x hx
theorem c33_blk (f : Nat) (pin fill : ByteArray) (h : (blkS f pin fill).length = 16) (W : World) :
    Calls Tryd.prog 33 #[.slice (some ⟨W.heap.size, 0, none⟩) 4 4] ((W.alloc (.cells #[.string ((⟨#[48, 49, 50, 51, 52, 53, 54, 55, 56, 57, 65, 66, 67, 68, 69, 70]⟩ : ByteArray).extract f (f + 1)), .string (sgnB.extract pin.size (pin.size + 1)), .string pin, .string fill] 9)).drew)
      fun e w' => e = .returned (.string ⟨(blkS f pin fill).toArray⟩) ∧ Below W.heap.size W w' :=
  c33 W [sgnB.extract f (f + 1), sgnB.extract pin.size (pin.size + 1), pin, fill] rfl (by show (blkS f pin fill).length ≤ 1000; omega)
theorem effs_size (n : Nat) : (effs n).size = n := by unfold effs; rw [size_mk, List.length_replicate]
theorem effs_sgn (n : Nat) : ∀ c ∈ bl (effs n), isSgn c = true := by
  intro c hc
  unfold effs at hc
  rw [bl_mk (List.replicate n 70)] at hc
  obtain ⟨_, rfl⟩ := List.mem_replicate.1 hc
  decide
theorem below_all {w w1 w2 w3 w4 : World} {n m : Nat} {o : Obj} (h1 : Below (((w.drewN n).alloc o).drewN m).heap.size (((w.drewN n).alloc o).drewN m) w1) (h2 : Below w1.heap.size w1 w2) (h3 : Below w2.heap.size w2 w3) (h4 : Below w3.heap.size w3 w4) : Below w.heap.size w w4 := by
  have h0 : Below w.heap.size w (((w.drewN n).alloc o).drewN m) := by repeat (first | exact Below.refl _ _ | apply below_alloc | apply pw_below_drewN)
  have k1 := h0.trans (h1.mono h0.size)
  have k2 := k1.trans (h2.mono k1.size)
  have k3 := k2.trans (h3.mono k2.size)
  exact k3.trans (h4.mono k3.size)
set_option maxRecDepth 100000 in
set_option maxHeartbeats 1000000 in
theorem blk_ok_0 (a1 a2 a3 : ByteArray) (w : World) (hs1 : a1.size ≤ 140737488355328) (hs2 : a2.size ≤ 140737488355328) (h28 : digB (bl a1) 4 12 = true) (h29 : digB (bl a2) 13 19 = true) (h3 : (!a3.toList.isEmpty) = false) :
    Calls Tryd.prog 10 #[.int .i64 0, .string a1, .string a2, .string a3] w fun e w' => e = .returned (.tuple #[.string ⟨(xorB (packL ((blkS 0 a1 (effs (14 - a1.size))).map nib)) (packL (panL (bl a2)))).toArray⟩, .int .i64 0]) ∧ Below w.heap.size w w' := by
  have C27 := Lib.hid c27_0
  have H28 := Lib.hid h28
  have H29 := Lib.hid h29
  have hl : a1.size ≤ 12 := by have := (digB_len h28).2.1; rwa [bl_length] at this
  have hK := blkS_ok 0 a1 (effs (14 - a1.size)) (by decide) h28 (effs_size _) (effs_sgn _)
  have C33 := Lib.hid (c33_blk 0 a1 (effs (14 - a1.size)) hK.1)
  have C32 := Lib.hid (fun w => c32 w (blkS 0 a1 (effs (14 - a1.size))) (by omega) hK.2)
  have C34 := Lib.hid (fun w => c34 w (packL ((blkS 0 a1 (effs (14 - a1.size))).map nib)) a2 (by rw [packL_length, List.length_map, hK.1]) h29)
  clear h28 h29 hK
  have w1 : IntKind.i64.wrap 1 = 1 := by decide
  have w2 : IntKind.i64.wrap ((a1.size : Int) + 1) = (a1.size : Int) + 1 := by rw [IntKind.wrap_i64]; omega
  have s2 := slice_sgn a1.size (by omega)
  go_enter Tryd.func10, Tryd.ntmps10
  go_wp2_with (first | (go_at_call 27; refine (C27.out _).mono ?_; rintro e w' ⟨n, rfl, rfl⟩) | (refine store_fresh rfl 53 (.tmp 12) (.tmp 21) rfl ofB 53 _ w.heap.size rfl (by simp) rfl info53 rfl ofB_one ?_) | (go_at_call 28; refine (c28 a1 hs1 _ _ H28.out).mono ?_; rintro e w' ⟨n28, rfl, rfl⟩) | (go_at_call 29; refine (c29 a2 hs2 _ _ H29.out).mono ?_; rintro e w' ⟨n29, rfl, rfl⟩) | (go_at_call 30; refine (c30 a1.size hl _).mono ?_; rintro e w30 ⟨rfl, hb30⟩))
  have HB := Lib.hid hb30
  clear hb30
  go_region_law (first | (go_simp; go_at_call 33; (with_reducible refine (C33.out _).mono ?_); rintro e w33 ⟨rfl, hb33⟩; have HB33 := Lib.hid hb33; clear hb33) | (go_simp; go_at_call 32; (with_reducible refine (C32.out _).mono ?_); rintro e w32 ⟨rfl, hb32⟩; have HB32 := Lib.hid hb32; clear hb32))
  go_wp2_with (first | (go_at_call 34; (with_reducible refine (C34.out _).mono ?_); rintro e w34 ⟨rfl, hb34⟩))
  have HB34 := Lib.hid hb34
  clear hb34
  go_ret2
  exact ⟨rfl, below_all HB.out HB33.out HB32.out HB34.out⟩
set_option maxRecDepth 100000 in
theorem blk_fill_0 (a1 a2 a3 : ByteArray) (w : World) (hs1 : a1.size ≤ 140737488355328) (hs2 : a2.size ≤ 140737488355328) (h28 : digB (bl a1) 4 12 = true) (h29 : digB (bl a2) 13 19 = true) (h3 : (!a3.toList.isEmpty) = true) :
    Calls Tryd.prog 10 #[.int .i64 0, .string a1, .string a2, .string a3] w fun e w' => e = .returned (.tuple #[.string ⟨#[]⟩, .int .i64 62]) ∧ Below w.heap.size w w' := by
  have C27 := Lib.hid c27_0
  have H28 := Lib.hid h28
  have H29 := Lib.hid h29
  have hl : a1.size ≤ 12 := by have := (digB_len h28).2.1; rwa [bl_length] at this
  clear h28 h29
  go_enter Tryd.func10, Tryd.ntmps10
  go_wp2_with (first | (go_at_call 27; refine (C27.out _).mono ?_; rintro e w' ⟨n, rfl, rfl⟩) | (refine store_fresh rfl 53 (.tmp 12) (.tmp 21) rfl ofB 53 _ w.heap.size rfl (by simp) rfl info53 rfl ofB_one ?_) | (go_at_call 28; refine (c28 a1 hs1 _ _ H28.out).mono ?_; rintro e w' ⟨n28, rfl, rfl⟩) | (go_at_call 29; refine (c29 a2 hs2 _ _ H29.out).mono ?_; rintro e w' ⟨n29, rfl, rfl⟩))
  go_ret2
  exact ⟨rfl, by repeat (first | exact Below.refl _ _ | apply below_alloc | apply pw_below_drewN)⟩
end Go.Proofs.YtkjjdodnkcmeiaaDoor.PX
