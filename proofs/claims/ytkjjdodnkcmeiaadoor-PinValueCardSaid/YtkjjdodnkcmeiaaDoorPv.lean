/- The walk of the law PinValue over contracts. -/
import Derived.Test.YtkjjdodnkcmeiaaDoorPur7
import Derived.Test.YtkjjdodnkcmeiaaDoorSealP
namespace Go.Proofs.YtkjjdodnkcmeiaaDoor.PX
open Go.RowKit Go.Proofs.YtkjjdodnkcmeiaaDoorW.PrintWords Go.Proofs.YtkjjdodnkcmeiaaDoorW.PrintLast Go.Proofs.YtkjjdodnkcmeiaaDoorW.PrintMore

set_option maxRecDepth 100000 in
set_option maxHeartbeats 4000000 in
theorem pv_walk (a0 a1 : ByteArray) (a2 : Int) (a3 : ByteArray) (a4 : Int) (a5 : ByteArray) (a6 a7 : Int) (m x y z : Nat) (p pan k I t S PA PD V : ByteArray) (w : World)
    (C9 : Hid (∀ w, Calls Tryd.prog 9 #[] w fun e w' => e = .returned (.bool true) ∧ Below w.heap.size w w'))
    (C16p : Hid (∀ w, Calls Tryd.prog 16 #[.string a0, .int .i64 4] w fun e w' => e = .returned (.string p) ∧ Below w.heap.size w w'))
    (C17m : Hid (∀ w, Calls Tryd.prog 17 #[.int .i64 a2, .int .i64 7] w fun e w' => e = .returned (.int .i64 (m : Int)) ∧ Below w.heap.size w w'))
    (C16c : Hid (∀ w, Calls Tryd.prog 16 #[.string a1, .int .i64 (13 + (m : Int))] w fun e w' => e = .returned (.string pan) ∧ Below w.heap.size w w'))
    (C15 : Hid (∀ w, Calls Tryd.prog 15 #[.string a3, .int .i64 16] w fun e w' => e = .returned (.string k) ∧ Below w.heap.size w w'))
    (C17x : Hid (∀ w, Calls Tryd.prog 17 #[.int .i64 a4, .int .i64 6] w fun e w' => e = .returned (.int .i64 (x : Int)) ∧ Below w.heap.size w w'))
    (C20a : Hid (∀ w, Calls Tryd.prog 20 #[.string k, .string pan, .string I, .string p] w fun e w' => e = .returned (.tuple #[.string V, .int .i64 0]) ∧ Below w.heap.size w w'))
    (C17y : Hid (∀ w, Calls Tryd.prog 17 #[.int .i64 a6, .int .i64 9] w fun e w' => e = .returned (.int .i64 (y : Int)) ∧ Below w.heap.size w w'))
    (C16t : Hid (∀ w, Calls Tryd.prog 16 #[.string a5, .int .i64 (y : Int)] w fun e w' => e = .returned (.string t) ∧ Below w.heap.size w w'))
    (C20b : Hid (∀ w, Calls Tryd.prog 20 #[.string k, .string pan, .string I, .string (p ++ t)] w fun e w' => e = .returned (.tuple #[.string V, .int .i64 0]) ∧ Below w.heap.size w w'))
    (C17z : Hid (∀ w, Calls Tryd.prog 17 #[.int .i64 a7, .int .i64 10] w fun e w' => e = .returned (.int .i64 (z : Int)) ∧ Drawn0 w w'))
    (C20c : Hid (∀ w, Calls Tryd.prog 20 #[.string k, .string (PA ++ S), .string I, .string p] w fun e w' => e = .returned (.tuple #[.string V, .int .i64 0]) ∧ Below w.heap.size w w'))
    (C20d : Hid (∀ w, Calls Tryd.prog 20 #[.string k, .string ((⟨#[55]⟩ : ByteArray) ++ PD), .string I, .string p] w fun e w' => e = .returned (.tuple #[.string V, .int .i64 0]) ∧ Below w.heap.size w w'))
    (C18 : Hid (∀ w, Calls Tryd.prog 18 #[.string V] w fun e w' => e = .returned (.bool true) ∧ Below w.heap.size w w'))
    (hm : m < 7) (hx : x < 6) (hz : z < 10)
    (kI : ∀ W : World, (convert 40 9 (.slice (some ⟨W.heap.size, 0, none⟩) 1 1)).run Tryd.prog (W.alloc (.cells #[.int .u8 (49 + (x : Int))] 5)) = .ok (.string I) (W.alloc (.cells #[.int .u8 (49 + (x : Int))] 5)))
    (kS : ∀ (W : World) (n : Nat), (convert 40 9 (.slice (some ⟨W.heap.size, 0, none⟩) 1 1)).run Tryd.prog ((W.drewN n).alloc (.cells #[.int .u8 (48 + (z : Int))] 5)) = .ok (.string S) ((W.drewN n).alloc (.cells #[.int .u8 (48 + (z : Int))] 5)))
    (sA : ∀ W : World, (Instr.slice 9 (.string pan) none (some (.int .i64 (13 + (m : Int) - 1))) none).run Tryd.prog W = .ok (.string PA) W)
    (sD : ∀ W : World, (Instr.slice 9 (.string pan) (some (.int .i64 (13 + (m : Int) - 12))) none none).run Tryd.prog W = .ok (.string PD) W)
    (b1 : p.size + t.size ≤ 1000) (b2 : PA.size + S.size ≤ 1000) (b3 : PD.size ≤ 1000) (hV : ((V.size : Int) == 4) = true) :
    Calls Tryd.prog 6 #[.string a0, .string a1, .int .i64 a2, .string a3, .int .i64 a4, .string a5, .int .i64 a6, .int .i64 a7] w fun e w' => e = .returned (.bool true) ∧ Below w.heap.size w w' := by
  have q13 : IntKind.i64.wrap (13 + (m : Int)) = 13 + (m : Int) := by rw [IntKind.wrap_i64]; omega
  have q12 : IntKind.i64.wrap (13 + (m : Int) - 1) = 13 + (m : Int) - 1 := by rw [IntKind.wrap_i64]; omega
  have d1 : decide (p.size + t.size ≤ 9223372036854775807) = true := decide_eq_true (by omega)
  have e1 : (9223372036854775807 < p.size + t.size) = False := eq_false (by omega)
  have d2 : decide (PA.size + S.size ≤ 9223372036854775807) = true := decide_eq_true (by omega)
  have e2 : (9223372036854775807 < PA.size + S.size) = False := eq_false (by omega)
  have d3 : decide (1 + PD.size ≤ 9223372036854775807) = true := decide_eq_true (by omega)
  have e3 : (9223372036854775807 < 1 + PD.size) = False := eq_false (by omega)
  have q48 : IntKind.i64.wrap (48 + (z : Int)) = 48 + (z : Int) := by rw [IntKind.wrap_i64]; omega
  have q8 : IntKind.u8.wrap (48 + (z : Int)) = 48 + (z : Int) := by rw [IntKind.wrap_u8]; omega
  clear b1 b2 b3
  go_enter Tryd.func6, Tryd.ntmps6
  have HB := Lib.hid (Below.refl w.heap.size w)
  go_wp2_with (first
    | (go_at_call 9; (with_reducible refine (C9.out _).mono ?_); rintro e w9 ⟨rfl, hb⟩; have n0 := Lib.hid (below_next HB.out hb); clear HB hb; have HB := n0; clear n0)
    | (go_at_call 16; (first | (with_reducible refine (C16p.out _).mono ?_) | (with_reducible refine (C16c.out _).mono ?_) | (with_reducible refine (C16t.out _).mono ?_)); rintro e w9 ⟨rfl, hb⟩; have n0 := Lib.hid (below_next HB.out hb); clear HB hb; have HB := n0; clear n0)
    | (go_at_call 17; (first | (with_reducible refine (C17m.out _).mono ?_) | (with_reducible refine (C17x.out _).mono ?_) | (with_reducible refine (C17y.out _).mono ?_)); rintro e w9 ⟨rfl, hb⟩; have n0 := Lib.hid (below_next HB.out hb); clear HB hb; have HB := n0; clear n0)
    | (go_at_call 15; (with_reducible refine (C15.out _).mono ?_); rintro e w9 ⟨rfl, hb⟩; have n0 := Lib.hid (below_next HB.out hb); clear HB hb; have HB := n0; clear n0)
    | (go_at_call 20; (first | (with_reducible refine (C20a.out _).mono ?_) | (with_reducible refine (C20b.out _).mono ?_)); rintro e w9 ⟨rfl, hb⟩; have n0 : Hid (Below w.heap.size w w9) := Lib.hid (by first | exact below_next HB.out hb | exact below_next (HB.out.alloc HB.out.size _) hb); clear HB hb; have HB := n0; clear n0))
  go_region_law (first
    | (go_simp; go_at_call 17; (with_reducible refine (C17z.out _).mono ?_); rintro e w17 ⟨rfl, hd⟩; obtain ⟨n17, rfl⟩ := hd)
    | (go_simp; go_at_call 20; (with_reducible refine (C20c.out _).mono ?_); rintro e w20 ⟨rfl, hb⟩; have HB20 := Lib.hid hb; clear hb))
  have n1 := Lib.hid (below_next ((HB.out.trans (below_drewN2 _ _ _)).alloc (by rw [size_drewN'']; exact HB.out.size) _) HB20.out)
  clear HB HB20
  have HB := n1
  clear n1
  go_wp2_with (first
    | (go_at_call 20; (with_reducible refine (C20d.out _).mono ?_); rintro e w9 ⟨rfl, hb⟩; have n0 := Lib.hid (below_next HB.out hb); clear HB hb; have HB := n0; clear n0)
    | (go_at_call 18; (with_reducible refine (C18.out _).mono ?_); rintro e w9 ⟨rfl, hb⟩; have n0 := Lib.hid (below_next HB.out hb); clear HB hb; have HB := n0; clear n0))
  go_ret
  exact ⟨rfl, HB.out⟩
end Go.Proofs.YtkjjdodnkcmeiaaDoor.PX
