/- The walk of pin.Block, format by format. -/

import Derived.Outline
import Derived.Laws.Tables
import Derived.Deep.RegionLaw
import Derived.Test.YtkjjdodnkcmeiaaGreatDoorPur1
import Derived.Test.YtkjjdodnkcmeiaaGreatDoorLibU
import Derived.Laws.DeepStrings4
import Derived.Test.YtkjjdodnkcmeiaaGreatDoorPX1
namespace Go.Proofs.YtkjjdodnkcmeiaaGreatDoor.PX
open Go.RowKit Go.Proofs.YtkjjdodnkcmeiaaGreatDoorW.PrintWords Go.Proofs.YtkjjdodnkcmeiaaGreatDoorW.PrintLast Go.Proofs.YtkjjdodnkcmeiaaGreatDoorW.PrintMore

theorem c27 (a : Int) (w : World) : Calls Tryz.prog 20 #[.int .i64 a] w fun e w' => ∃ n, e = .returned (.tuple #[.bool (decide (a = 0) || decide (a = 1) || decide (a = 3)), .bool (a != 1)]) ∧ w' = w.drewN n := by
  refine (pin_known.calls a (decide (a = 0) || decide (a = 1) || decide (a = 3)) (a != 1) w ?_).mono ?_
  · unfold pin_known.f
    by_cases h0 : a = 0
    · rw [if_pos h0]; simp [h0]
    · rw [if_neg h0]
      by_cases h1 : a = 1
      · rw [if_pos h1]; simp [h1]
      · rw [if_neg h1]; simp [h0, h1]
        by_cases h3 : a = 3 <;> simp [h3]
  · rintro e w' ⟨rfl, ⟨n, rfl⟩⟩
    exact ⟨n, rfl, rfl⟩
theorem c28 (s : ByteArray) (hs : s.size ≤ 140737488355328) (w : World) (b : Bool) (h : digB (bl s) 4 12 = b) : Calls Tryz.prog 21 #[.string s] w fun e w' => ∃ n, e = .returned (.bool b) ∧ w' = w.drewN n := by
  refine (pin_isPIN.calls (s.size + 1) s b w (by rw [isPIN_eq s hs _ (by omega), h])).mono ?_
  rintro e w' ⟨rfl, ⟨n, rfl⟩⟩
  exact ⟨n, rfl, rfl⟩
theorem c29 (s : ByteArray) (hs : s.size ≤ 140737488355328) (w : World) (b : Bool) (h : digB (bl s) 13 19 = b) : Calls Tryz.prog 22 #[.string s] w fun e w' => ∃ n, e = .returned (.bool b) ∧ w' = w.drewN n := by
  refine (pin_isPAN.calls (s.size + 1) s b w (by rw [isPAN_eq s hs _ (by omega), h])).mono ?_
  rintro e w' ⟨rfl, ⟨n, rfl⟩⟩
  exact ⟨n, rfl, rfl⟩
theorem setRow_fresh (w : World) (cs new : Array Value) (t : TypeId) : (w.alloc (.cells cs t)).setRow w.heap.size new = w.alloc (.cells new t) := by
  have h : ((w.alloc (.cells cs t)).setRow w.heap.size new).heap = (w.alloc (.cells new t)).heap := by
    have e : ∀ o, w.alloc o = { w with heap := w.heap.push o } := fun _ => rfl
    rw [e, e]
    simp only [World.setRow]
    apply Array.ext_getElem?
    intro i
    rw [Array.getElem?_modify, Array.getElem?_push, Array.getElem?_push]
    by_cases e : i = w.heap.size
    · subst e; simp
    · have e' : ¬ w.heap.size = i := fun h => e h.symm
      simp [e, e']
  have e : (w.alloc (.cells cs t)).setRow w.heap.size new = ({ w with heap := ((w.alloc (.cells cs t)).setRow w.heap.size new).heap } : World) := rfl
  rw [e, h]
  rfl
/-- A whole array or struct, stored into the box that has just been laid. -/
theorem store_fresh {P : Program} {ops : Array Oper} {rest : List Oper} {o : Oper} {a : Act} {w : World} {Q : Exit → Act → World → Prop} (hgd : o.guard = none) (ty : TypeId) (x y : Operand) (ho : o.op = .store ty x y)
    (cells : Array Value) (t : TypeId) (old : Array Value) (g : Nat) (hx : a.eval x = .pointer (some ⟨g, 0, none⟩)) (hgw : g = w.heap.size) (hy : a.eval y = .agg cells)
    (hi : (P.info? ty).map (·.size) = some cells.size) (hold : old.size = cells.size) (h1 : cells.all (·.oneCell') = true)
    (h : wpList P ops Q rest (a.put o.dst undef) (w.alloc (.cells cells t))) : wpList P ops Q (o :: rest) a (w.alloc (.cells old t)) :=
  wpList_store_row hgd ty x y ho w.heap.size cells (by rw [hx, hgw]) hy t old (heap_alloc_new w _) hi hold h1 (by rw [setRow_fresh]; exact h)
def ofB : Array Value := #[.string ⟨#[]⟩, .string sgnB, .string ⟨#[]⟩, .string (sgnB.extract 10 16)]
theorem ofB_one : ofB.all (·.oneCell') = true := by simp [ofB, Value.oneCell']
theorem info53 : (Tryz.prog.info? 45).map (·.size) = some 4 := by kernel_rfl
set_option maxRecDepth 100000 in
theorem blk_unknown (a0 : Int) (a1 a2 a3 : ByteArray) (w : World) (h : (decide (a0 = 0) || decide (a0 = 1) || decide (a0 = 3)) = false) :
    Calls Tryz.prog 12 #[.int .i64 a0, .string a1, .string a2, .string a3] w fun e w' => e = .returned (.tuple #[.string ⟨#[]⟩, .int .i64 61]) ∧ Below w.heap.size w w' := by
  have c := c27 a0
  rw [h] at c
  have C := Lib.hid c
  clear c
  go_enter Tryz.func12, Tryz.ntmps12
  go_wp2_with (first | (go_at_call 20; refine (C.out _).mono ?_; rintro e w' ⟨n, rfl, rfl⟩) | (refine store_fresh rfl 45 (.tmp 12) (.tmp 21) rfl ofB 45 _ w.heap.size rfl (by simp) rfl info53 rfl ofB_one ?_))
  go_ret2
  exact ⟨rfl, by repeat (first | exact Below.refl _ _ | apply below_alloc | apply pw_below_drewN)⟩

theorem c27_0 (w : World) : Calls Tryz.prog 20 #[.int .i64 0] w fun e w' => ∃ n, e = .returned (.tuple #[.bool true, .bool true]) ∧ w' = w.drewN n := c27 0 w
set_option maxRecDepth 100000 in
theorem blk_pin_0 (a1 a2 a3 : ByteArray) (w : World) (hs1 : a1.size ≤ 140737488355328) (h28 : digB (bl a1) 4 12 = false) :
    Calls Tryz.prog 12 #[.int .i64 0, .string a1, .string a2, .string a3] w fun e w' => e = .returned (.tuple #[.string ⟨#[]⟩, .int .i64 60]) ∧ Below w.heap.size w w' := by
  have C27 := Lib.hid c27_0
  have H28 := Lib.hid h28
  clear h28
  go_enter Tryz.func12, Tryz.ntmps12
  go_wp2_with (first | (go_at_call 20; refine (C27.out _).mono ?_; rintro e w' ⟨n, rfl, rfl⟩) | (refine store_fresh rfl 45 (.tmp 12) (.tmp 21) rfl ofB 45 _ w.heap.size rfl (by simp) rfl info53 rfl ofB_one ?_) | (go_at_call 21; refine (c28 a1 hs1 _ _ H28.out).mono ?_; rintro e w' ⟨n28, rfl, rfl⟩))
  go_ret2
  exact ⟨rfl, by repeat (first | exact Below.refl _ _ | apply below_alloc | apply pw_below_drewN)⟩
set_option maxRecDepth 100000 in
theorem blk_pan_0 (a1 a2 a3 : ByteArray) (w : World) (hs1 : a1.size ≤ 140737488355328) (hs2 : a2.size ≤ 140737488355328) (h28 : digB (bl a1) 4 12 = true) (h29 : digB (bl a2) 13 19 = false) :
    Calls Tryz.prog 12 #[.int .i64 0, .string a1, .string a2, .string a3] w fun e w' => e = .returned (.tuple #[.string ⟨#[]⟩, .int .i64 50]) ∧ Below w.heap.size w w' := by
  have C27 := Lib.hid c27_0
  have H28 := Lib.hid h28
  have H29 := Lib.hid h29
  clear h28 h29
  go_enter Tryz.func12, Tryz.ntmps12
  go_wp2_with (first | (go_at_call 20; refine (C27.out _).mono ?_; rintro e w' ⟨n, rfl, rfl⟩) | (refine store_fresh rfl 45 (.tmp 12) (.tmp 21) rfl ofB 45 _ w.heap.size rfl (by simp) rfl info53 rfl ofB_one ?_) | (go_at_call 21; refine (c28 a1 hs1 _ _ H28.out).mono ?_; rintro e w' ⟨n28, rfl, rfl⟩) | (go_at_call 22; refine (c29 a2 hs2 _ _ H29.out).mono ?_; rintro e w' ⟨n29, rfl, rfl⟩))
  go_ret2
  exact ⟨rfl, by repeat (first | exact Below.refl _ _ | apply below_alloc | apply pw_below_drewN)⟩

theorem c27_1 (w : World) : Calls Tryz.prog 20 #[.int .i64 1] w fun e w' => ∃ n, e = .returned (.tuple #[.bool true, .bool false]) ∧ w' = w.drewN n := c27 1 w
set_option maxRecDepth 100000 in
theorem blk_pin_1 (a1 a2 a3 : ByteArray) (w : World) (hs1 : a1.size ≤ 140737488355328) (h28 : digB (bl a1) 4 12 = false) :
    Calls Tryz.prog 12 #[.int .i64 1, .string a1, .string a2, .string a3] w fun e w' => e = .returned (.tuple #[.string ⟨#[]⟩, .int .i64 60]) ∧ Below w.heap.size w w' := by
  have C27 := Lib.hid c27_1
  have H28 := Lib.hid h28
  clear h28
  go_enter Tryz.func12, Tryz.ntmps12
  go_wp2_with (first | (go_at_call 20; refine (C27.out _).mono ?_; rintro e w' ⟨n, rfl, rfl⟩) | (refine store_fresh rfl 45 (.tmp 12) (.tmp 21) rfl ofB 45 _ w.heap.size rfl (by simp) rfl info53 rfl ofB_one ?_) | (go_at_call 21; refine (c28 a1 hs1 _ _ H28.out).mono ?_; rintro e w' ⟨n28, rfl, rfl⟩))
  go_ret2
  exact ⟨rfl, by repeat (first | exact Below.refl _ _ | apply below_alloc | apply pw_below_drewN)⟩

theorem c27_3 (w : World) : Calls Tryz.prog 20 #[.int .i64 3] w fun e w' => ∃ n, e = .returned (.tuple #[.bool true, .bool true]) ∧ w' = w.drewN n := c27 3 w
set_option maxRecDepth 100000 in
theorem blk_pin_3 (a1 a2 a3 : ByteArray) (w : World) (hs1 : a1.size ≤ 140737488355328) (h28 : digB (bl a1) 4 12 = false) :
    Calls Tryz.prog 12 #[.int .i64 3, .string a1, .string a2, .string a3] w fun e w' => e = .returned (.tuple #[.string ⟨#[]⟩, .int .i64 60]) ∧ Below w.heap.size w w' := by
  have C27 := Lib.hid c27_3
  have H28 := Lib.hid h28
  clear h28
  go_enter Tryz.func12, Tryz.ntmps12
  go_wp2_with (first | (go_at_call 20; refine (C27.out _).mono ?_; rintro e w' ⟨n, rfl, rfl⟩) | (refine store_fresh rfl 45 (.tmp 12) (.tmp 21) rfl ofB 45 _ w.heap.size rfl (by simp) rfl info53 rfl ofB_one ?_) | (go_at_call 21; refine (c28 a1 hs1 _ _ H28.out).mono ?_; rintro e w' ⟨n28, rfl, rfl⟩))
  go_ret2
  exact ⟨rfl, by repeat (first | exact Below.refl _ _ | apply below_alloc | apply pw_below_drewN)⟩
set_option maxRecDepth 100000 in
theorem blk_pan_3 (a1 a2 a3 : ByteArray) (w : World) (hs1 : a1.size ≤ 140737488355328) (hs2 : a2.size ≤ 140737488355328) (h28 : digB (bl a1) 4 12 = true) (h29 : digB (bl a2) 13 19 = false) :
    Calls Tryz.prog 12 #[.int .i64 3, .string a1, .string a2, .string a3] w fun e w' => e = .returned (.tuple #[.string ⟨#[]⟩, .int .i64 50]) ∧ Below w.heap.size w w' := by
  have C27 := Lib.hid c27_3
  have H28 := Lib.hid h28
  have H29 := Lib.hid h29
  clear h28 h29
  go_enter Tryz.func12, Tryz.ntmps12
  go_wp2_with (first | (go_at_call 20; refine (C27.out _).mono ?_; rintro e w' ⟨n, rfl, rfl⟩) | (refine store_fresh rfl 45 (.tmp 12) (.tmp 21) rfl ofB 45 _ w.heap.size rfl (by simp) rfl info53 rfl ofB_one ?_) | (go_at_call 21; refine (c28 a1 hs1 _ _ H28.out).mono ?_; rintro e w' ⟨n28, rfl, rfl⟩) | (go_at_call 22; refine (c29 a2 hs2 _ _ H29.out).mono ?_; rintro e w' ⟨n29, rfl, rfl⟩))
  go_ret2
  exact ⟨rfl, by repeat (first | exact Below.refl _ _ | apply below_alloc | apply pw_below_drewN)⟩
end Go.Proofs.YtkjjdodnkcmeiaaGreatDoor.PX
namespace Go.Proofs.YtkjjdodnkcmeiaaGreatDoor.PX
open Go.RowKit Go.Proofs.YtkjjdodnkcmeiaaGreatDoorW.PrintWords Go.Proofs.YtkjjdodnkcmeiaaGreatDoorW.PrintLast Go.Proofs.YtkjjdodnkcmeiaaGreatDoorW.PrintMore
def effs (n : Nat) : ByteArray := ⟨(List.replicate n 70).toArray⟩
theorem repeatL_eff (n : Nat) : Lib.repeatL [70] n = List.replicate n 70 := by
  induction n with
  | zero => rfl
  | succ n ih => rw [Lib.repeatL, ih]; rfl
theorem c30 (n : Nat) (hn : n ≤ 12) (w : World) : Calls Tryz.prog 23 #[.string ⟨#[70]⟩, .int .i64 (14 - (n : Int))] w fun e w' => e = .returned (.string (effs (14 - n))) ∧ Below w.heap.size w w' := by
  have h : ((14 : Int) - (n : Int)).toNat = 14 - n := by omega
  refine strings_Repeat.calls ⟨#[70]⟩ (14 - (n : Int)) (effs (14 - n)) w ?_
  unfold strings_Repeat.f
  rw [h, if_pos ⟨by omega, by omega, by rw [show (⟨#[70]⟩ : ByteArray).size = 1 from rfl]; omega⟩]
  unfold effs
  rw [show (⟨#[70]⟩ : ByteArray).data.toList = [70] from rfl, repeatL_eff]
theorem slice_sgn (n : Nat) (hn : n + 1 ≤ 16) (W : World) : (Instr.slice 9 (.string ⟨#[48, 49, 50, 51, 52, 53, 54, 55, 56, 57, 65, 66, 67, 68, 69, 70]⟩) (some (.int .i64 (n : Int))) (some (.int .i64 ((n : Int) + 1))) none).run Tryz.prog W = .ok (.string (sgnB.extract n (n + 1))) W := by
  have hz := run_slice_string_if (P := Tryz.prog) (w := W) 9 sgnB .i64 .i64 (n : Int) ((n : Int) + 1) Tryz.underlying9
  rw [if_pos ⟨by omega, by rw [show sgnB.size = 16 from rfl]; omega⟩, if_pos ⟨by omega, by omega⟩, Int.toNat_natCast, show ((n : Int) + 1).toNat = n + 1 by omega] at hz
  exact hz
theorem below_box {w w' : World} {o : Obj} (h : Below (w.alloc o).drew.heap.size (w.alloc o).drew w') : Below w.heap.size w w' := by
  have h0 : Below w.heap.size w (w.alloc o).drew := ((Below.refl _ _).alloc (Nat.le_refl _) o).drew
  exact h0.trans (h.mono h0.size)
theorem c33 (W : World) (l : List ByteArray) (hl : l.length = 4) (ht : (l.map bl).flatten.length ≤ 1000) : Calls Tryz.prog 26 #[.slice (some ⟨W.heap.size, 0, none⟩) 4 4] ((W.alloc (.cells (l.map Value.string).toArray 9)).drew)
    fun e w' => e = .returned (.string ⟨(l.map bl).flatten.toArray⟩) ∧ Below W.heap.size W w' := by
  have h := pin_joined.calls (some ⟨W.heap.size, 0, none⟩) 4 l _ ((W.alloc (.cells (l.map Value.string).toArray 9)).drew) ?_ (by omega) (joined_eq l (by omega) (by omega))
  · rw [hl] at h
    refine h.mono ?_
    rintro e w' ⟨rfl, hb⟩
    exact ⟨rfl, below_box hb⟩
  · refine ⟨rfl, by omega, fun _ => ⟨_, rfl, fun j p hj => ⟨[.string p], rfl, rfl, fun i u hu => ?_⟩⟩⟩
    have hi : i = 0 := by
      rcases i with _ | i
      · rfl
      · simp at hu
    subst hi
    have hu' : u = .string p := by simpa using hu.symm
    subst hu'
    refine World.news_of_block (cs := (l.map Value.string).toArray) (t := 9) (fr := (0, 0)) (w := W.alloc (.cells (l.map Value.string).toArray 9)) (heap_alloc_new W _) (j * Kd.string.sz + 0) (.string p) ?_
    rw [show Kd.string.sz = 1 from rfl]
    simp [hj]
theorem c32 (w : World) (l : List UInt8) (hs : l.length ≤ 1000) (hg : ∀ c ∈ l, isSgn c = true) : Calls Tryz.prog 25 #[.string ⟨l.toArray⟩] w fun e w' => e = .returned (.string ⟨(packL (l.map nib)).toArray⟩) ∧ Below w.heap.size w w' :=
  pin_packed.calls (l.length + 1) ⟨l.toArray⟩ _ w (packed_eq ⟨l.toArray⟩ (by rw [size_mk l]; omega) hg _ (by rw [size_mk l]; omega))
theorem c34 (w : World) (l : List UInt8) (pan : ByteArray) (hl : l.length = 8) (hp : digB (bl pan) 13 19 = true) : Calls Tryz.prog 27 #[.string ⟨l.toArray⟩, .string pan] w fun e w' => e = .returned (.string ⟨(xorB l (packL (panL (bl pan)))).toArray⟩) ∧ Below w.heap.size w w' :=
  pin_summed.calls 9 ⟨l.toArray⟩ pan _ w (summed_eq ⟨l.toArray⟩ pan (by rw [size_mk l]; exact hl) hp 9 (by omega))
/-- The sixteen characters of a block, ahead of the sum. -/
def blkS (f : Nat) (pin fill : ByteArray) : List UInt8 := ([sgnB.extract f (f + 1), sgnB.extract pin.size (pin.size + 1), pin, fill].map bl).flatten
theorem sgn_at (n : Nat) (h : n < 16) : ∃ c, bl (sgnB.extract n (n + 1)) = [c] ∧ isSgn c = true ∧ nib c = n := by
  have hh : ∀ n : Fin 16, bl (sgnB.extract n.1 (n.1 + 1)) = [signAt n.1] ∧ isSgn (signAt n.1) = true ∧ nib (signAt n.1) = n.1 := by decide +kernel
  exact ⟨_, hh ⟨n, h⟩⟩
theorem blkS_ok (f : Nat) (pin fill : ByteArray) (hf : f < 16) (hp : digB (bl pin) 4 12 = true) (hl : fill.size = 14 - pin.size) (hg : ∀ c ∈ bl fill, isSgn c = true) : (blkS f pin fill).length = 16 ∧ ∀ c ∈ blkS f pin fill, isSgn c = true := by
  obtain ⟨l1, l2, l3⟩ := digB_len hp
  rw [bl_length] at l1 l2
  obtain ⟨c, e1, e2, _⟩ := sgn_at f hf
  obtain ⟨d, g1, g2, _⟩ := sgn_at pin.size (by omega)
  unfold blkS
  simp only [List.map_cons, List.map_nil, List.flatten_cons, List.flatten_nil, List.append_nil, e1, g1]
  refine ⟨by simp [bl_length]; omega, fun x hx => ?_⟩
  simp only [List.mem_append, List.mem_singleton] at hx
  rcases hx with rfl | rfl | hx | hx
  · exact e2
  · exact g2
  · exact dig_sgn x (l3 x hx)
  · exact hg x hx
theorem c33_blk (f : Nat) (pin fill : ByteArray) (h : (blkS f pin fill).length = 16) (W : World) :
    Calls Tryz.prog 26 #[.slice (some ⟨W.heap.size, 0, none⟩) 4 4] ((W.alloc (.cells #[.string ((⟨#[48, 49, 50, 51, 52, 53, 54, 55, 56, 57, 65, 66, 67, 68, 69, 70]⟩ : ByteArray).extract f (f + 1)), .string (sgnB.extract pin.size (pin.size + 1)), .string pin, .string fill] 9)).drew)
      fun e w' => e = .returned (.string ⟨(blkS f pin fill).toArray⟩) ∧ Below W.heap.size W w' :=
  c33 W [sgnB.extract f (f + 1), sgnB.extract pin.size (pin.size + 1), pin, fill] rfl (by show (blkS f pin fill).length ≤ 1000; omega)
theorem effs_size (n : Nat) : (effs n).size = n := by unfold effs; rw [size_mk, List.length_replicate]
theorem effs_sgn (n : Nat) : ∀ c ∈ bl (effs n), isSgn c = true := by
  intro c hc
  unfold effs at hc
  rw [bl_mk (List.replicate n 70)] at hc
  obtain ⟨_, rfl⟩ := List.mem_replicate.1 hc
  decide
theorem below_all {w w1 w2 w3 w4 : World} {n m : Nat} {o : Obj} (h1 : Below (((w.drewN n).alloc o).drewN m).heap.size (((w.drewN n).alloc o).drewN m) w1) (h2 : Below w1.heap.size w1 w2) (h3 : Below w2.heap.size w2 w3) (h4 : Below w3.heap.size w3 w4) : Below w.heap.size w w4 := by
  have h0 : Below w.heap.size w (((w.drewN n).alloc o).drewN m) := by repeat (first | exact Below.refl _ _ | apply below_alloc | apply pw_below_drewN)
  have k1 := h0.trans (h1.mono h0.size)
  have k2 := k1.trans (h2.mono k1.size)
  have k3 := k2.trans (h3.mono k2.size)
  exact k3.trans (h4.mono k3.size)
set_option maxRecDepth 100000 in
set_option maxHeartbeats 1000000 in
theorem blk_ok_0 (a1 a2 a3 : ByteArray) (w : World) (hs1 : a1.size ≤ 140737488355328) (hs2 : a2.size ≤ 140737488355328) (h28 : digB (bl a1) 4 12 = true) (h29 : digB (bl a2) 13 19 = true) (h3 : (!a3.toList.isEmpty) = false) :
    Calls Tryz.prog 12 #[.int .i64 0, .string a1, .string a2, .string a3] w fun e w' => e = .returned (.tuple #[.string ⟨(xorB (packL ((blkS 0 a1 (effs (14 - a1.size))).map nib)) (packL (panL (bl a2)))).toArray⟩, .int .i64 0]) ∧ Below w.heap.size w w' := by
  have C27 := Lib.hid c27_0
  have H28 := Lib.hid h28
  have H29 := Lib.hid h29
  have hl : a1.size ≤ 12 := by have := (digB_len h28).2.1; rwa [bl_length] at this
  have hK := blkS_ok 0 a1 (effs (14 - a1.size)) (by decide) h28 (effs_size _) (effs_sgn _)
  have C33 := Lib.hid (c33_blk 0 a1 (effs (14 - a1.size)) hK.1)
  have C32 := Lib.hid (fun w => c32 w (blkS 0 a1 (effs (14 - a1.size))) (by omega) hK.2)
  have C34 := Lib.hid (fun w => c34 w (packL ((blkS 0 a1 (effs (14 - a1.size))).map nib)) a2 (by rw [packL_length, List.length_map, hK.1]) h29)
  clear h28 h29 hK
  have w1 : IntKind.i64.wrap 1 = 1 := by decide
  have w2 : IntKind.i64.wrap ((a1.size : Int) + 1) = (a1.size : Int) + 1 := by rw [IntKind.wrap_i64]; omega
  have s2 := slice_sgn a1.size (by omega)
  go_enter Tryz.func12, Tryz.ntmps12
  go_wp2_with (first | (go_at_call 20; refine (C27.out _).mono ?_; rintro e w' ⟨n, rfl, rfl⟩) | (refine store_fresh rfl 45 (.tmp 12) (.tmp 21) rfl ofB 45 _ w.heap.size rfl (by simp) rfl info53 rfl ofB_one ?_) | (go_at_call 21; refine (c28 a1 hs1 _ _ H28.out).mono ?_; rintro e w' ⟨n28, rfl, rfl⟩) | (go_at_call 22; refine (c29 a2 hs2 _ _ H29.out).mono ?_; rintro e w' ⟨n29, rfl, rfl⟩) | (go_at_call 23; refine (c30 a1.size hl _).mono ?_; rintro e w30 ⟨rfl, hb30⟩))
  have HB := Lib.hid hb30
  clear hb30
  go_region_law (first | (go_simp; go_at_call 26; (with_reducible refine (C33.out _).mono ?_); rintro e w33 ⟨rfl, hb33⟩; have HB33 := Lib.hid hb33; clear hb33) | (go_simp; go_at_call 25; (with_reducible refine (C32.out _).mono ?_); rintro e w32 ⟨rfl, hb32⟩; have HB32 := Lib.hid hb32; clear hb32))
  go_wp2_with (first | (go_at_call 27; (with_reducible refine (C34.out _).mono ?_); rintro e w34 ⟨rfl, hb34⟩))
  have HB34 := Lib.hid hb34
  clear hb34
  go_ret2
  exact ⟨rfl, below_all HB.out HB33.out HB32.out HB34.out⟩
set_option maxRecDepth 100000 in
theorem blk_fill_0 (a1 a2 a3 : ByteArray) (w : World) (hs1 : a1.size ≤ 140737488355328) (hs2 : a2.size ≤ 140737488355328) (h28 : digB (bl a1) 4 12 = true) (h29 : digB (bl a2) 13 19 = true) (h3 : (!a3.toList.isEmpty) = true) :
    Calls Tryz.prog 12 #[.int .i64 0, .string a1, .string a2, .string a3] w fun e w' => e = .returned (.tuple #[.string ⟨#[]⟩, .int .i64 62]) ∧ Below w.heap.size w w' := by
  have C27 := Lib.hid c27_0
  have H28 := Lib.hid h28
  have H29 := Lib.hid h29
  have hl : a1.size ≤ 12 := by have := (digB_len h28).2.1; rwa [bl_length] at this
  clear h28 h29
  go_enter Tryz.func12, Tryz.ntmps12
  go_wp2_with (first | (go_at_call 20; refine (C27.out _).mono ?_; rintro e w' ⟨n, rfl, rfl⟩) | (refine store_fresh rfl 45 (.tmp 12) (.tmp 21) rfl ofB 45 _ w.heap.size rfl (by simp) rfl info53 rfl ofB_one ?_) | (go_at_call 21; refine (c28 a1 hs1 _ _ H28.out).mono ?_; rintro e w' ⟨n28, rfl, rfl⟩) | (go_at_call 22; refine (c29 a2 hs2 _ _ H29.out).mono ?_; rintro e w' ⟨n29, rfl, rfl⟩))
  go_ret2
  exact ⟨rfl, by repeat (first | exact Below.refl _ _ | apply below_alloc | apply pw_below_drewN)⟩
end Go.Proofs.YtkjjdodnkcmeiaaGreatDoor.PX
namespace Go.Proofs.YtkjjdodnkcmeiaaGreatDoor.PX
open Go.RowKit Go.Proofs.YtkjjdodnkcmeiaaGreatDoorW.PrintWords Go.Proofs.YtkjjdodnkcmeiaaGreatDoorW.PrintLast Go.Proofs.YtkjjdodnkcmeiaaGreatDoorW.PrintMore
theorem c31 (s of : ByteArray) (n : Nat) (hs : s.size ≤ 140737488355328) (b : Bool) (h : withinB (bl s) (bl of) (14 - (n : Int)) (14 - (n : Int)) = b) (w : World) :
    Calls Tryz.prog 24 #[.string s, .string of, .int .i64 (14 - (n : Int)), .int .i64 (14 - (n : Int))] w fun e w' => ∃ m, e = .returned (.bool b) ∧ w' = w.drewN m := by
  refine (pin_within.calls (s.size + 1) s of _ _ b w (by rw [within_eq s of _ _ hs _ (by omega), h])).mono ?_
  rintro e w' ⟨rfl, ⟨m, rfl⟩⟩
  exact ⟨m, rfl, rfl⟩
theorem below_one {w w0 w1 w2 : World} (h0 : Below w.heap.size w w0) (h1 : Below w0.heap.size w0 w1) (h2 : Below w1.heap.size w1 w2) : Below w.heap.size w w2 := by
  have k1 := h0.trans (h1.mono h0.size)
  exact k1.trans (h2.mono k1.size)
theorem size_drewN' (w : World) (n : Nat) : (w.drewN n).heap.size = w.heap.size := by simp
theorem ofB_cell (w : World) (n j : Nat) : ((w.drewN n).alloc (.cells ofB 45)).cell? ⟨w.heap.size, j, none⟩ = ofB[j]? := by
  have h : ((w.drewN n).alloc (.cells ofB 45)).heap[w.heap.size]? = some (.cells ofB 45 (0, 0)) := by
    have := heap_alloc_new (w.drewN n) (.cells ofB 45)
    rwa [size_drewN'] at this
  exact cell_of_row _ _ j _ _ _ h

set_option maxRecDepth 100000 in
set_option maxHeartbeats 1000000 in
theorem blk_fill_1 (a1 a2 a3 : ByteArray) (w : World) (hs1 : a1.size ≤ 140737488355328) (hs3 : a3.size ≤ 140737488355328) (h28 : digB (bl a1) 4 12 = true) (h31 : withinB (bl a3) (bl ((⟨#[48, 49, 50, 51, 52, 53, 54, 55, 56, 57, 65, 66, 67, 68, 69, 70]⟩ : ByteArray))) (14 - (a1.size : Int)) (14 - (a1.size : Int)) = false) :
    Calls Tryz.prog 12 #[.int .i64 1, .string a1, .string a2, .string a3] w fun e w' => e = .returned (.tuple #[.string ⟨#[]⟩, .int .i64 62]) ∧ Below w.heap.size w w' := by
  have C27 := Lib.hid c27_1
  have H28 := Lib.hid h28
  have hl : a1.size ≤ 12 := by have := (digB_len h28).2.1; rwa [bl_length] at this
  have C31 := Lib.hid (c31 a3 ((⟨#[48, 49, 50, 51, 52, 53, 54, 55, 56, 57, 65, 66, 67, 68, 69, 70]⟩ : ByteArray)) a1.size hs3 _ h31)
  clear h28 h31
  have F1 : ∀ n, ((w.drewN n).alloc (.cells ofB 45)).cell? ⟨w.heap.size, 1, none⟩ = some (.string ((⟨#[48, 49, 50, 51, 52, 53, 54, 55, 56, 57, 65, 66, 67, 68, 69, 70]⟩ : ByteArray))) := fun n => ofB_cell w n 1
  go_enter Tryz.func12, Tryz.ntmps12
  go_wp2_with (first | (go_at_call 20; refine (C27.out _).mono ?_; rintro e w' ⟨n, rfl, rfl⟩) | (refine store_fresh rfl 45 (.tmp 12) (.tmp 21) rfl ofB 45 _ w.heap.size rfl (by simp) rfl info53 rfl ofB_one ?_) | (go_at_call 21; refine (c28 a1 hs1 _ _ H28.out).mono ?_; rintro e w' ⟨n28, rfl, rfl⟩) | (go_at_call 24; (with_reducible refine (C31.out _).mono ?_); rintro e w' ⟨n31, rfl, rfl⟩))
  go_ret2
  exact ⟨rfl, by repeat (first | exact Below.refl _ _ | apply below_alloc | apply pw_below_drewN)⟩

set_option maxRecDepth 100000 in
set_option maxHeartbeats 1000000 in
theorem blk_ok_1 (a1 a2 a3 : ByteArray) (w : World) (hs1 : a1.size ≤ 140737488355328) (hs3 : a3.size ≤ 140737488355328) (h28 : digB (bl a1) 4 12 = true) (h31 : withinB (bl a3) (bl ((⟨#[48, 49, 50, 51, 52, 53, 54, 55, 56, 57, 65, 66, 67, 68, 69, 70]⟩ : ByteArray))) (14 - (a1.size : Int)) (14 - (a1.size : Int)) = true) (hK : (blkS 1 a1 a3).length = 16 ∧ ∀ c ∈ blkS 1 a1 a3, isSgn c = true) :
    Calls Tryz.prog 12 #[.int .i64 1, .string a1, .string a2, .string a3] w fun e w' => e = .returned (.tuple #[.string ⟨(packL ((blkS 1 a1 a3).map nib)).toArray⟩, .int .i64 0]) ∧ Below w.heap.size w w' := by
  have C27 := Lib.hid c27_1
  have H28 := Lib.hid h28
  have hl : a1.size ≤ 12 := by have := (digB_len h28).2.1; rwa [bl_length] at this
  have C31 := Lib.hid (c31 a3 ((⟨#[48, 49, 50, 51, 52, 53, 54, 55, 56, 57, 65, 66, 67, 68, 69, 70]⟩ : ByteArray)) a1.size hs3 _ h31)
  have C33 := Lib.hid (c33_blk 1 a1 a3 hK.1)
  have C32 := Lib.hid (fun w => c32 w (blkS 1 a1 a3) (by omega) hK.2)
  clear h28 h31 hK
  have F1 : ∀ n, ((w.drewN n).alloc (.cells ofB 45)).cell? ⟨w.heap.size, 1, none⟩ = some (.string ((⟨#[48, 49, 50, 51, 52, 53, 54, 55, 56, 57, 65, 66, 67, 68, 69, 70]⟩ : ByteArray))) := fun n => ofB_cell w n 1
  have w1 : IntKind.i64.wrap 2 = 2 := by decide
  have w2 : IntKind.i64.wrap ((a1.size : Int) + 1) = (a1.size : Int) + 1 := by rw [IntKind.wrap_i64]; omega
  have s2 := slice_sgn a1.size (by omega)
  go_enter Tryz.func12, Tryz.ntmps12
  go_wp2_with (first | (go_at_call 20; refine (C27.out _).mono ?_; rintro e w' ⟨n, rfl, rfl⟩) | (refine store_fresh rfl 45 (.tmp 12) (.tmp 21) rfl ofB 45 _ w.heap.size rfl (by simp) rfl info53 rfl ofB_one ?_) | (go_at_call 21; refine (c28 a1 hs1 _ _ H28.out).mono ?_; rintro e w' ⟨n28, rfl, rfl⟩) | (go_at_call 24; (with_reducible refine (C31.out _).mono ?_); rintro e w' ⟨n31, rfl, rfl⟩))
  obtain ⟨wv, hW⟩ : ∃ wv : World, (((w.drewN n).alloc (.cells ofB 45)).drewN (n28 + n31)) = wv := ⟨_, rfl⟩
  rw [hW]
  have HW : Hid (Below w.heap.size w wv) := by rw [← hW]; show Below _ _ _; repeat (first | exact Below.refl _ _ | apply below_alloc | apply pw_below_drewN)
  clear hW F1
  go_region_law (first | (go_simp; go_at_call 26; (with_reducible refine (C33.out _).mono ?_); rintro e w33 ⟨rfl, hb33⟩; have HB33 := Lib.hid hb33; clear hb33) | (go_simp; go_at_call 25; (with_reducible refine (C32.out _).mono ?_); rintro e w32 ⟨rfl, hb32⟩; have HB32 := Lib.hid hb32; clear hb32))
  go_wp2
  go_ret2
  exact ⟨rfl, below_one HW.out HB33.out HB32.out⟩

set_option maxRecDepth 100000 in
set_option maxHeartbeats 1000000 in
theorem blk_fill_3 (a1 a2 a3 : ByteArray) (w : World) (hs1 : a1.size ≤ 140737488355328) (hs2 : a2.size ≤ 140737488355328) (h29 : digB (bl a2) 13 19 = true) (hs3 : a3.size ≤ 140737488355328) (h28 : digB (bl a1) 4 12 = true) (h31 : withinB (bl a3) (bl ((⟨#[48, 49, 50, 51, 52, 53, 54, 55, 56, 57, 65, 66, 67, 68, 69, 70]⟩ : ByteArray).extract 10 16)) (14 - (a1.size : Int)) (14 - (a1.size : Int)) = false) :
    Calls Tryz.prog 12 #[.int .i64 3, .string a1, .string a2, .string a3] w fun e w' => e = .returned (.tuple #[.string ⟨#[]⟩, .int .i64 62]) ∧ Below w.heap.size w w' := by
  have C27 := Lib.hid c27_3
  have H28 := Lib.hid h28
  have H29 := Lib.hid h29
  have hl : a1.size ≤ 12 := by have := (digB_len h28).2.1; rwa [bl_length] at this
  have C31 := Lib.hid (c31 a3 ((⟨#[48, 49, 50, 51, 52, 53, 54, 55, 56, 57, 65, 66, 67, 68, 69, 70]⟩ : ByteArray).extract 10 16) a1.size hs3 _ h31)
  clear h28 h29 h31
  have F1 : ∀ n, ((w.drewN n).alloc (.cells ofB 45)).cell? ⟨w.heap.size, 3, none⟩ = some (.string ((⟨#[48, 49, 50, 51, 52, 53, 54, 55, 56, 57, 65, 66, 67, 68, 69, 70]⟩ : ByteArray).extract 10 16)) := fun n => ofB_cell w n 3
  go_enter Tryz.func12, Tryz.ntmps12
  go_wp2_with (first | (go_at_call 20; refine (C27.out _).mono ?_; rintro e w' ⟨n, rfl, rfl⟩) | (refine store_fresh rfl 45 (.tmp 12) (.tmp 21) rfl ofB 45 _ w.heap.size rfl (by simp) rfl info53 rfl ofB_one ?_) | (go_at_call 21; refine (c28 a1 hs1 _ _ H28.out).mono ?_; rintro e w' ⟨n28, rfl, rfl⟩) | (go_at_call 22; refine (c29 a2 hs2 _ _ H29.out).mono ?_; rintro e w' ⟨n29, rfl, rfl⟩) | (go_at_call 24; (with_reducible refine (C31.out _).mono ?_); rintro e w' ⟨n31, rfl, rfl⟩))
  go_ret2
  exact ⟨rfl, by repeat (first | exact Below.refl _ _ | apply below_alloc | apply pw_below_drewN)⟩

set_option maxRecDepth 100000 in
set_option maxHeartbeats 1000000 in
theorem blk_ok_3 (a1 a2 a3 : ByteArray) (w : World) (hs1 : a1.size ≤ 140737488355328) (hs2 : a2.size ≤ 140737488355328) (h29 : digB (bl a2) 13 19 = true) (hs3 : a3.size ≤ 140737488355328) (h28 : digB (bl a1) 4 12 = true) (h31 : withinB (bl a3) (bl ((⟨#[48, 49, 50, 51, 52, 53, 54, 55, 56, 57, 65, 66, 67, 68, 69, 70]⟩ : ByteArray).extract 10 16)) (14 - (a1.size : Int)) (14 - (a1.size : Int)) = true) (hK : (blkS 3 a1 a3).length = 16 ∧ ∀ c ∈ blkS 3 a1 a3, isSgn c = true) :
    Calls Tryz.prog 12 #[.int .i64 3, .string a1, .string a2, .string a3] w fun e w' => e = .returned (.tuple #[.string ⟨(xorB (packL ((blkS 3 a1 a3).map nib)) (packL (panL (bl a2)))).toArray⟩, .int .i64 0]) ∧ Below w.heap.size w w' := by
  have C27 := Lib.hid c27_3
  have H28 := Lib.hid h28
  have H29 := Lib.hid h29
  have hl : a1.size ≤ 12 := by have := (digB_len h28).2.1; rwa [bl_length] at this
  have C31 := Lib.hid (c31 a3 ((⟨#[48, 49, 50, 51, 52, 53, 54, 55, 56, 57, 65, 66, 67, 68, 69, 70]⟩ : ByteArray).extract 10 16) a1.size hs3 _ h31)
  have C33 := Lib.hid (c33_blk 3 a1 a3 hK.1)
  have C32 := Lib.hid (fun w => c32 w (blkS 3 a1 a3) (by omega) hK.2)
  have C34 := Lib.hid (fun w => c34 w (packL ((blkS 3 a1 a3).map nib)) a2 (by rw [packL_length, List.length_map, hK.1]) h29)
  clear h28 h29 h31 hK
  have F1 : ∀ n, ((w.drewN n).alloc (.cells ofB 45)).cell? ⟨w.heap.size, 3, none⟩ = some (.string ((⟨#[48, 49, 50, 51, 52, 53, 54, 55, 56, 57, 65, 66, 67, 68, 69, 70]⟩ : ByteArray).extract 10 16)) := fun n => ofB_cell w n 3
  have w1 : IntKind.i64.wrap 4 = 4 := by decide
  have w2 : IntKind.i64.wrap ((a1.size : Int) + 1) = (a1.size : Int) + 1 := by rw [IntKind.wrap_i64]; omega
  have s2 := slice_sgn a1.size (by omega)
  go_enter Tryz.func12, Tryz.ntmps12
  go_wp2_with (first | (go_at_call 20; refine (C27.out _).mono ?_; rintro e w' ⟨n, rfl, rfl⟩) | (refine store_fresh rfl 45 (.tmp 12) (.tmp 21) rfl ofB 45 _ w.heap.size rfl (by simp) rfl info53 rfl ofB_one ?_) | (go_at_call 21; refine (c28 a1 hs1 _ _ H28.out).mono ?_; rintro e w' ⟨n28, rfl, rfl⟩) | (go_at_call 22; refine (c29 a2 hs2 _ _ H29.out).mono ?_; rintro e w' ⟨n29, rfl, rfl⟩) | (go_at_call 24; (with_reducible refine (C31.out _).mono ?_); rintro e w' ⟨n31, rfl, rfl⟩))
  obtain ⟨wv, hW⟩ : ∃ wv : World, (((w.drewN n).alloc (.cells ofB 45)).drewN (n28 + n29 + n31)) = wv := ⟨_, rfl⟩
  rw [hW]
  have HW : Hid (Below w.heap.size w wv) := by rw [← hW]; show Below _ _ _; repeat (first | exact Below.refl _ _ | apply below_alloc | apply pw_below_drewN)
  clear hW F1
  go_region_law (first | (go_simp; go_at_call 26; (with_reducible refine (C33.out _).mono ?_); rintro e w33 ⟨rfl, hb33⟩; have HB33 := Lib.hid hb33; clear hb33) | (go_simp; go_at_call 25; (with_reducible refine (C32.out _).mono ?_); rintro e w32 ⟨rfl, hb32⟩; have HB32 := Lib.hid hb32; clear hb32))
  go_wp2_with (first | (go_at_call 27; (with_reducible refine (C34.out _).mono ?_); rintro e w34 ⟨rfl, hb34⟩))
  have HB34 := Lib.hid hb34
  clear hb34
  go_ret2
  exact ⟨rfl, (below_one HW.out HB33.out HB32.out).trans (HB34.out.mono (below_one HW.out HB33.out HB32.out).size)⟩
end Go.Proofs.YtkjjdodnkcmeiaaGreatDoor.PX
namespace Go.Proofs.YtkjjdodnkcmeiaaGreatDoor.PX
open Go.RowKit Go.Proofs.YtkjjdodnkcmeiaaGreatDoorW.PrintWords Go.Proofs.YtkjjdodnkcmeiaaGreatDoorW.PrintLast Go.Proofs.YtkjjdodnkcmeiaaGreatDoorW.PrintMore
def mkB (l : List UInt8) : ByteArray := ⟨l.toArray⟩
theorem bl_mkB (l : List UInt8) : bl (mkB l) = l := rfl
theorem mkB_size (l : List UInt8) : (mkB l).size = l.length := size_mk l
def blockR (a0 : Int) (a1 a2 a3 : ByteArray) : ByteArray × Int :=
  if a0 = 0 ∨ a0 = 1 ∨ a0 = 3 then
    if digB (bl a1) 4 12 = true then
      if a0 ≠ 1 ∧ digB (bl a2) 13 19 = false then (mkB [], 50)
      else if a0 = 0 then (if a3.size = 0 then (mkB (xorB (packL ((blkS 0 a1 (effs (14 - a1.size))).map nib)) (packL (panL (bl a2)))), 0) else (mkB [], 62))
      else if withinB (bl a3) (bl (if a0 = 1 then sgnB else sgnB.extract 10 16)) (14 - (a1.size : Int)) (14 - (a1.size : Int)) = true then
        (mkB (if a0 = 1 then packL ((blkS 1 a1 a3).map nib) else xorB (packL ((blkS 3 a1 a3).map nib)) (packL (panL (bl a2)))), 0)
      else (mkB [], 62)
    else (mkB [], 60)
  else (mkB [], 61)
def pin_Block.f (a0 : Int) (a1 a2 a3 : ByteArray) : Option (ByteArray × Int) :=
  if a1.size ≤ 140737488355328 ∧ a2.size ≤ 140737488355328 ∧ a3.size ≤ 140737488355328 then some (blockR a0 a1 a2 a3) else none
theorem empty_iff (a : ByteArray) : (!a.toList.isEmpty) = !decide (a.size = 0) := by
  rw [ByteArray.toList_eq]
  have : a.data.toList.length = a.size := by simp
  cases h : a.data.toList with
  | nil => rw [h] at this; simp at this; simp [← this]
  | cons x l => rw [h] at this; simp at this; simp [← this]
theorem cat_len (f : Nat) (pin fill : ByteArray) (hf : f < 16) (hp : digB (bl pin) 4 12 = true) (of : ByteArray) (ho : ∀ c ∈ bl of, isSgn c = true) (h : withinB (bl fill) (bl of) (14 - (pin.size : Int)) (14 - (pin.size : Int)) = true) :
    (blkS f pin fill).length = 16 ∧ ∀ c ∈ blkS f pin fill, isSgn c = true := by
  have hd := digB_len hp
  rw [bl_length] at hd
  unfold withinB at h
  simp only [Bool.and_eq_true, decide_eq_true_eq, List.all_eq_true] at h
  rw [bl_length] at h
  refine blkS_ok f pin fill hf hp (by omega) (fun c hc => ho c ?_)
  have := h.1.1 c hc
  simpa using this
theorem sgnB_sgn : ∀ c ∈ bl sgnB, isSgn c = true := by
  intro c hc
  unfold isSgn
  simpa using hc
theorem sgnX_sgn : ∀ c ∈ bl (sgnB.extract 10 16), isSgn c = true := by
  intro c hc
  rw [bl_extract, List.extract_eq_take_drop] at hc
  exact sgnB_sgn c (List.mem_of_mem_drop (List.mem_of_mem_take hc))
theorem pin_Block.calls (a0 : Int) (a1 : ByteArray) (a2 : ByteArray) (a3 : ByteArray) (r1 : ByteArray) (r2 : Int) (w : World) (h : pin_Block.f a0 a1 a2 a3 = some (r1, r2)) :
    Calls Tryz.prog 12 #[.int .i64 a0, .string a1, .string a2, .string a3] w fun e w' => e = .returned (.tuple #[.string r1, .int .i64 r2]) ∧ Below w.heap.size w w' := by
  unfold pin_Block.f at h
  split at h
  · rename_i hs
    obtain ⟨s1, s2, s3⟩ := hs
    have h := Option.some.inj h
    unfold blockR at h
    by_cases hk : a0 = 0 ∨ a0 = 1 ∨ a0 = 3
    · rw [if_pos hk] at h
      by_cases h28 : digB (bl a1) 4 12 = true
      · rw [if_pos h28] at h
        rcases hk with rfl | rfl | rfl
        · by_cases h29 : digB (bl a2) 13 19 = true
          · rw [if_neg (by simp [h29]), if_pos rfl] at h
            by_cases h3 : a3.size = 0
            · rw [if_pos h3] at h
              obtain ⟨rfl, rfl⟩ := Prod.mk.inj h
              exact blk_ok_0 a1 a2 a3 w s1 s2 h28 h29 (by rw [empty_iff]; simp [h3])
            · rw [if_neg h3] at h
              obtain ⟨rfl, rfl⟩ := Prod.mk.inj h
              exact blk_fill_0 a1 a2 a3 w s1 s2 h28 h29 (by rw [empty_iff]; simp [h3])
          · have h29' : digB (bl a2) 13 19 = false := by simpa using h29
            rw [if_pos ⟨by decide, h29'⟩] at h
            obtain ⟨rfl, rfl⟩ := Prod.mk.inj h
            exact blk_pan_0 a1 a2 a3 w s1 s2 h28 h29'
        · rw [if_neg (by simp), if_neg (by decide), if_pos rfl] at h
          by_cases h31 : withinB (bl a3) (bl sgnB) (14 - (a1.size : Int)) (14 - (a1.size : Int)) = true
          · rw [if_pos h31, if_pos rfl] at h
            obtain ⟨rfl, rfl⟩ := Prod.mk.inj h
            exact blk_ok_1 a1 a2 a3 w s1 s3 h28 h31 (cat_len 1 a1 a3 (by decide) h28 sgnB sgnB_sgn h31)
          · rw [if_neg h31] at h
            obtain ⟨rfl, rfl⟩ := Prod.mk.inj h
            exact blk_fill_1 a1 a2 a3 w s1 s3 h28 (Bool.eq_false_iff.mpr h31)
        · by_cases h29 : digB (bl a2) 13 19 = true
          · rw [if_neg (by simp [h29]), if_neg (show ¬ (3 : Int) = 0 by decide), show (if (3 : Int) = 1 then sgnB else sgnB.extract 10 16) = sgnB.extract 10 16 from rfl] at h
            by_cases h31 : withinB (bl a3) (bl (sgnB.extract 10 16)) (14 - (a1.size : Int)) (14 - (a1.size : Int)) = true
            · rw [if_pos h31, if_neg (show ¬ (3 : Int) = 1 by decide)] at h
              obtain ⟨rfl, rfl⟩ := Prod.mk.inj h
              exact blk_ok_3 a1 a2 a3 w s1 s2 h29 s3 h28 h31 (cat_len 3 a1 a3 (by decide) h28 _ sgnX_sgn h31)
            · rw [if_neg h31] at h
              obtain ⟨rfl, rfl⟩ := Prod.mk.inj h
              exact blk_fill_3 a1 a2 a3 w s1 s2 h29 s3 h28 (Bool.eq_false_iff.mpr h31)
          · have h29' : digB (bl a2) 13 19 = false := by simpa using h29
            rw [if_pos ⟨by decide, h29'⟩] at h
            obtain ⟨rfl, rfl⟩ := Prod.mk.inj h
            exact blk_pan_3 a1 a2 a3 w s1 s2 h28 h29'
      · rw [if_neg h28] at h
        obtain ⟨rfl, rfl⟩ := Prod.mk.inj h
        have h28' : digB (bl a1) 4 12 = false := by simpa using h28
        rcases hk with rfl | rfl | rfl
        · exact blk_pin_0 a1 a2 a3 w s1 h28'
        · exact blk_pin_1 a1 a2 a3 w s1 h28'
        · exact blk_pin_3 a1 a2 a3 w s1 h28'
    · rw [if_neg hk] at h
      obtain ⟨rfl, rfl⟩ := Prod.mk.inj h
      exact blk_unknown a0 a1 a2 a3 w (by simp; omega)
  · cases h
end Go.Proofs.YtkjjdodnkcmeiaaGreatDoor.PX
