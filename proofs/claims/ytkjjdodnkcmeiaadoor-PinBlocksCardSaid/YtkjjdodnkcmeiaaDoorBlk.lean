/- The walk of pin.Block, format by format. -/

import Derived.Outline
import Derived.Laws.Tables
import Derived.Deep.RegionLaw
import Derived.Test.YtkjjdodnkcmeiaaDoorPX1
import Derived.Test.YtkjjdodnkcmeiaaDoorPur1
namespace Go.Proofs.YtkjjdodnkcmeiaaDoor.PX
open Go.RowKit Go.Proofs.YtkjjdodnkcmeiaaDoorW.PrintWords Go.Proofs.YtkjjdodnkcmeiaaDoorW.PrintLast Go.Proofs.YtkjjdodnkcmeiaaDoorW.PrintMore

theorem c27 (a : Int) (w : World) : Calls Tryd.prog 27 #[.int .i64 a] w fun e w' => ∃ n, e = .returned (.tuple #[.bool (decide (a = 0) || decide (a = 1) || decide (a = 3)), .bool (a != 1)]) ∧ w' = w.drewN n := by
  refine (pin_known.calls a (decide (a = 0) || decide (a = 1) || decide (a = 3)) (a != 1) w ?_).mono ?_
  · unfold pin_known.f
    by_cases h0 : a = 0
    · rw [if_pos h0]; simp [h0]
    · rw [if_neg h0]
      by_cases h1 : a = 1
      · rw [if_pos h1]; simp [h1]
      · rw [if_neg h1]; simp [h0, h1]
        by_cases h3 : a = 3 <;> simp [h3]
  · rintro e w' ⟨rfl, ⟨n, rfl⟩⟩
    exact ⟨n, rfl, rfl⟩
theorem c28 (s : ByteArray) (hs : s.size ≤ 140737488355328) (w : World) (b : Bool) (h : digB (bl s) 4 12 = b) : Calls Tryd.prog 28 #[.string s] w fun e w' => ∃ n, e = .returned (.bool b) ∧ w' = w.drewN n := by
  refine (pin_isPIN.calls (s.size + 1) s b w (by rw [isPIN_eq s hs _ (by omega), h])).mono ?_
  rintro e w' ⟨rfl, ⟨n, rfl⟩⟩
  exact ⟨n, rfl, rfl⟩
theorem c29 (s : ByteArray) (hs : s.size ≤ 140737488355328) (w : World) (b : Bool) (h : digB (bl s) 13 19 = b) : Calls Tryd.prog 29 #[.string s] w fun e w' => ∃ n, e = .returned (.bool b) ∧ w' = w.drewN n := by
  refine (pin_isPAN.calls (s.size + 1) s b w (by rw [isPAN_eq s hs _ (by omega), h])).mono ?_
  rintro e w' ⟨rfl, ⟨n, rfl⟩⟩
  exact ⟨n, rfl, rfl⟩
theorem setRow_fresh (w : World) (cs new : Array Value) (t : TypeId) : (w.alloc (.cells cs t)).setRow w.heap.size new = w.alloc (.cells new t) := by
  have h : ((w.alloc (.cells cs t)).setRow w.heap.size new).heap = (w.alloc (.cells new t)).heap := by
    have e : ∀ o, w.alloc o = { w with heap := w.heap.push o } := fun _ => rfl
    rw [e, e]
    simp only [World.setRow]
    apply Array.ext_getElem?
    intro i
    rw [Array.getElem?_modify, Array.getElem?_push, Array.getElem?_push]
    by_cases e : i = w.heap.size
    · subst e; simp
    · have e' : ¬ w.heap.size = i := fun h => e h.symm
      simp [e, e']
  have e : (w.alloc (.cells cs t)).setRow w.heap.size new = ({ w with heap := ((w.alloc (.cells cs t)).setRow w.heap.size new).heap } : World) := rfl
  rw [e, h]
  rfl
/-- A whole array or struct, stored into the box that has just been laid. -/
theorem store_fresh {P : Program} {ops : Array Oper} {rest : List Oper} {o : Oper} {a : Act} {w : World} {Q : Exit → Act → World → Prop} (hgd : o.guard = none) (ty : TypeId) (x y : Operand) (ho : o.op = .store ty x y)
    (cells : Array Value) (t : TypeId) (old : Array Value) (g : Nat) (hx : a.eval x = .pointer (some ⟨g, 0, none⟩)) (hgw : g = w.heap.size) (hy : a.eval y = .agg cells)
    (hi : (P.info? ty).map (·.size) = some cells.size) (hold : old.size = cells.size) (h1 : cells.all (·.oneCell') = true)
    (h : wpList P ops Q rest (a.put o.dst undef) (w.alloc (.cells cells t))) : wpList P ops Q (o :: rest) a (w.alloc (.cells old t)) :=
  wpList_store_row hgd ty x y ho w.heap.size cells (by rw [hx, hgw]) hy t old (heap_alloc_new w _) hi hold h1 (by rw [setRow_fresh]; exact h)
def ofB : Array Value := #[.string ⟨#[]⟩, .string sgnB, .string ⟨#[]⟩, .string (sgnB.extract 10 16)]
theorem ofB_one : ofB.all (·.oneCell') = true := by simp [ofB, Value.oneCell']
theorem info53 : (Tryd.prog.info? 53).map (·.size) = some 4 := by kernel_rfl
set_option maxRecDepth 100000 in
theorem blk_unknown (a0 : Int) (a1 a2 a3 : ByteArray) (w : World) (h : (decide (a0 = 0) || decide (a0 = 1) || decide (a0 = 3)) = false) :
    Calls Tryd.prog 10 #[.int .i64 a0, .string a1, .string a2, .string a3] w fun e w' => e = .returned (.tuple #[.string ⟨#[]⟩, .int .i64 61]) ∧ Below w.heap.size w w' := by
  have c := c27 a0
  rw [h] at c
  have C := Lib.hid c
  clear c
  go_enter Tryd.func10, Tryd.ntmps10
  go_wp2_with (first | (go_at_call 27; refine (C.out _).mono ?_; rintro e w' ⟨n, rfl, rfl⟩) | (refine store_fresh rfl 53 (.tmp 12) (.tmp 21) rfl ofB 53 _ w.heap.size rfl (by simp) rfl info53 rfl ofB_one ?_))
  go_ret2
  exact ⟨rfl, by repeat (first | exact Below.refl _ _ | apply below_alloc | apply pw_below_drewN)⟩

theorem c27_0 (w : World) : Calls Tryd.prog 27 #[.int .i64 0] w fun e w' => ∃ n, e = .returned (.tuple #[.bool true, .bool true]) ∧ w' = w.drewN n := c27 0 w
set_option maxRecDepth 100000 in
theorem blk_pin_0 (a1 a2 a3 : ByteArray) (w : World) (hs1 : a1.size ≤ 140737488355328) (h28 : digB (bl a1) 4 12 = false) :
    Calls Tryd.prog 10 #[.int .i64 0, .string a1, .string a2, .string a3] w fun e w' => e = .returned (.tuple #[.string ⟨#[]⟩, .int .i64 60]) ∧ Below w.heap.size w w' := by
  have C27 := Lib.hid c27_0
  have H28 := Lib.hid h28
  clear h28
  go_enter Tryd.func10, Tryd.ntmps10
  go_wp2_with (first | (go_at_call 27; refine (C27.out _).mono ?_; rintro e w' ⟨n, rfl, rfl⟩) | (refine store_fresh rfl 53 (.tmp 12) (.tmp 21) rfl ofB 53 _ w.heap.size rfl (by simp) rfl info53 rfl ofB_one ?_) | (go_at_call 28; refine (c28 a1 hs1 _ _ H28.out).mono ?_; rintro e w' ⟨n28, rfl, rfl⟩))
  go_ret2
  exact ⟨rfl, by repeat (first | exact Below.refl _ _ | apply below_alloc | apply pw_below_drewN)⟩
set_option maxRecDepth 100000 in
theorem blk_pan_0 (a1 a2 a3 : ByteArray) (w : World) (hs1 : a1.size ≤ 140737488355328) (hs2 : a2.size ≤ 140737488355328) (h28 : digB (bl a1) 4 12 = true) (h29 : digB (bl a2) 13 19 = false) :
    Calls Tryd.prog 10 #[.int .i64 0, .string a1, .string a2, .string a3] w fun e w' => e = .returned (.tuple #[.string ⟨#[]⟩, .int .i64 50]) ∧ Below w.heap.size w w' := by
  have C27 := Lib.hid c27_0
  have H28 := Lib.hid h28
  have H29 := Lib.hid h29
  clear h28 h29
  go_enter Tryd.func10, Tryd.ntmps10
  go_wp2_with (first | (go_at_call 27; refine (C27.out _).mono ?_; rintro e w' ⟨n, rfl, rfl⟩) | (refine store_fresh rfl 53 (.tmp 12) (.tmp 21) rfl ofB 53 _ w.heap.size rfl (by simp) rfl info53 rfl ofB_one ?_) | (go_at_call 28; refine (c28 a1 hs1 _ _ H28.out).mono ?_; rintro e w' ⟨n28, rfl, rfl⟩) | (go_at_call 29; refine (c29 a2 hs2 _ _ H29.out).mono ?_; rintro e w' ⟨n29, rfl, rfl⟩))
  go_ret2
  exact ⟨rfl, by repeat (first | exact Below.refl _ _ | apply below_alloc | apply pw_below_drewN)⟩

theorem c27_1 (w : World) : Calls Tryd.prog 27 #[.int .i64 1] w fun e w' => ∃ n, e = .returned (.tuple #[.bool true, .bool false]) ∧ w' = w.drewN n := c27 1 w
set_option maxRecDepth 100000 in
theorem blk_pin_1 (a1 a2 a3 : ByteArray) (w : World) (hs1 : a1.size ≤ 140737488355328) (h28 : digB (bl a1) 4 12 = false) :
    Calls Tryd.prog 10 #[.int .i64 1, .string a1, .string a2, .string a3] w fun e w' => e = .returned (.tuple #[.string ⟨#[]⟩, .int .i64 60]) ∧ Below w.heap.size w w' := by
  have C27 := Lib.hid c27_1
  have H28 := Lib.hid h28
  clear h28
  go_enter Tryd.func10, Tryd.ntmps10
  go_wp2_with (first | (go_at_call 27; refine (C27.out _).mono ?_; rintro e w' ⟨n, rfl, rfl⟩) | (refine store_fresh rfl 53 (.tmp 12) (.tmp 21) rfl ofB 53 _ w.heap.size rfl (by simp) rfl info53 rfl ofB_one ?_) | (go_at_call 28; refine (c28 a1 hs1 _ _ H28.out).mono ?_; rintro e w' ⟨n28, rfl, rfl⟩))
  go_ret2
  exact ⟨rfl, by repeat (first | exact Below.refl _ _ | apply below_alloc | apply pw_below_drewN)⟩

theorem c27_3 (w : World) : Calls Tryd.prog 27 #[.int .i64 3] w fun e w' => ∃ n, e = .returned (.tuple #[.bool true, .bool true]) ∧ w' = w.drewN n := c27 3 w
set_option maxRecDepth 100000 in
theorem blk_pin_3 (a1 a2 a3 : ByteArray) (w : World) (hs1 : a1.size ≤ 140737488355328) (h28 : digB (bl a1) 4 12 = false) :
    Calls Tryd.prog 10 #[.int .i64 3, .string a1, .string a2, .string a3] w fun e w' => e = .returned (.tuple #[.string ⟨#[]⟩, .int .i64 60]) ∧ Below w.heap.size w w' := by
  have C27 := Lib.hid c27_3
  have H28 := Lib.hid h28
  clear h28
  go_enter Tryd.func10, Tryd.ntmps10
  go_wp2_with (first | (go_at_call 27; refine (C27.out _).mono ?_; rintro e w' ⟨n, rfl, rfl⟩) | (refine store_fresh rfl 53 (.tmp 12) (.tmp 21) rfl ofB 53 _ w.heap.size rfl (by simp) rfl info53 rfl ofB_one ?_) | (go_at_call 28; refine (c28 a1 hs1 _ _ H28.out).mono ?_; rintro e w' ⟨n28, rfl, rfl⟩))
  go_ret2
  exact ⟨rfl, by repeat (first | exact Below.refl _ _ | apply below_alloc | apply pw_below_drewN)⟩
set_option maxRecDepth 100000 in
theorem blk_pan_3 (a1 a2 a3 : ByteArray) (w : World) (hs1 : a1.size ≤ 140737488355328) (hs2 : a2.size ≤ 140737488355328) (h28 : digB (bl a1) 4 12 = true) (h29 : digB (bl a2) 13 19 = false) :
    Calls Tryd.prog 10 #[.int .i64 3, .string a1, .string a2, .string a3] w fun e w' => e = .returned (.tuple #[.string ⟨#[]⟩, .int .i64 50]) ∧ Below w.heap.size w w' := by
  have C27 := Lib.hid c27_3
  have H28 := Lib.hid h28
  have H29 := Lib.hid h29
  clear h28 h29
  go_enter Tryd.func10, Tryd.ntmps10
  go_wp2_with (first | (go_at_call 27; refine (C27.out _).mono ?_; rintro e w' ⟨n, rfl, rfl⟩) | (refine store_fresh rfl 53 (.tmp 12) (.tmp 21) rfl ofB 53 _ w.heap.size rfl (by simp) rfl info53 rfl ofB_one ?_) | (go_at_call 28; refine (c28 a1 hs1 _ _ H28.out).mono ?_; rintro e w' ⟨n28, rfl, rfl⟩) | (go_at_call 29; refine (c29 a2 hs2 _ _ H29.out).mono ?_; rintro e w' ⟨n29, rfl, rfl⟩))
  go_ret2
  exact ⟨rfl, by repeat (first | exact Below.refl _ _ | apply below_alloc | apply pw_below_drewN)⟩
end Go.Proofs.YtkjjdodnkcmeiaaDoor.PX
