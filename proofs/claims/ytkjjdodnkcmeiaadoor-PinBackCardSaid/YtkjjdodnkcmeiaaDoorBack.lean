/- The walk of the law PinBack, and the law: what is laid in a block is taken out of it, under a key and without one. -/
import Derived.Test.YtkjjdodnkcmeiaaDoorPur7
import Derived.Test.YtkjjdodnkcmeiaaDoorSealP
namespace Go.Proofs.YtkjjdodnkcmeiaaDoor.PX
open Go.RowKit Go.Proofs.YtkjjdodnkcmeiaaDoorW.PrintWords Go.Proofs.YtkjjdodnkcmeiaaDoorW.PrintLast Go.Proofs.YtkjjdodnkcmeiaaDoorW.PrintMore

theorem drawn_below {w w' : World} (h : Drawn0 w w') : Below w.heap.size w w' := by
  obtain ⟨n, rfl⟩ := h
  exact below_drewN2 _ _ _
theorem blkB_half (a0 : Int) (pin pan a3 : ByteArray) (h013 : a0 = 0 ∨ a0 = 1 ∨ a0 = 3) (hp : digB (bl pin) 4 12 = true) (hs : digB (bl pan) 13 19 = true) (hf : FillOk a0 pin.size a3) :
    ((((bl (blkB a0 pin pan a3)).getD 0 0).toNat / 16 : Nat) : Int) = a0 := by
  obtain ⟨s1, s2, s3, _⟩ := sixteenN_ok a0 pin pan a3 h013 hp (fun _ => hs) hf
  have hh : halvesN (bl (blkB a0 pin pan a3)) = sixteenN a0 pin pan a3 := by
    unfold blkB
    rw [bl_bsOf]
    exact halves_packL _ (by rw [s1]) s2
  rw [(half0 _).1, hh, s3]
  omega
theorem first_byte (B : ByteArray) (h : 0 < B.size) : B[0] = (bl B).getD 0 0 := by
  have h' : 0 < (bl B).length := by rw [bl_length]; exact h
  rw [List.getD_eq_getElem?_getD, List.getElem?_eq_getElem h']
  rfl
set_option maxRecDepth 100000 in
set_option maxHeartbeats 2000000 in
theorem back_walk (a0 : Int) (a1 : ByteArray) (a2 : Int) (a3 : ByteArray) (a4 : Int) (a5 a6 : ByteArray) (f : Int) (n m : Nat) (pin pan key ff B S : ByteArray) (w : World)
    (C9 : Hid (∀ w, Calls Tryd.prog 9 #[] w fun e w' => e = .returned (.bool true) ∧ Below w.heap.size w w'))
    (C14 : Hid (∀ w, Calls Tryd.prog 14 #[.int .i64 a0] w fun e w' => e = .returned (.int .i64 f) ∧ Below w.heap.size w w'))
    (C17a : Hid (∀ w, Calls Tryd.prog 17 #[.int .i64 a2, .int .i64 9] w fun e w' => e = .returned (.int .i64 (n : Int)) ∧ Below w.heap.size w w'))
    (C16a : Hid (∀ w, Calls Tryd.prog 16 #[.string a1, .int .i64 (4 + (n : Int))] w fun e w' => e = .returned (.string pin) ∧ Below w.heap.size w w'))
    (C17b : Hid (∀ w, Calls Tryd.prog 17 #[.int .i64 a4, .int .i64 7] w fun e w' => e = .returned (.int .i64 (m : Int)) ∧ Below w.heap.size w w'))
    (C16b : Hid (∀ w, Calls Tryd.prog 16 #[.string a3, .int .i64 (13 + (m : Int))] w fun e w' => e = .returned (.string pan) ∧ Below w.heap.size w w'))
    (C15 : Hid (∀ w, Calls Tryd.prog 15 #[.string a6, .int .i64 16] w fun e w' => e = .returned (.string key) ∧ Below w.heap.size w w'))
    (C19 : Hid (∀ w, Calls Tryd.prog 19 #[.int .i64 f, .string a5, .int .i64 (4 + (n : Int))] w fun e w' => e = .returned (.string ff) ∧ Below w.heap.size w w'))
    (C10 : Hid (∀ w, Calls Tryd.prog 10 #[.int .i64 f, .string pin, .string pan, .string ff] w fun e w' => e = .returned (.tuple #[.string B, .int .i64 0]) ∧ Below w.heap.size w w'))
    (C12 : Hid (∀ w, Calls Tryd.prog 12 #[.int .i64 f, .string B, .string pan] w fun e w' => e = .returned (.tuple #[.string pin, .int .i64 0]) ∧ Below w.heap.size w w'))
    (C22 : Hid (∀ w, Calls Tryd.prog 22 #[.string key, .int .i64 f, .string pin, .string pan, .string ff] w fun e w' => e = .returned (.tuple #[.string S, .int .i64 0]) ∧ Below w.heap.size w w'))
    (C23 : Hid (∀ w, Calls Tryd.prog 23 #[.string key, .int .i64 f, .string S, .string pan] w fun e w' => e = .returned (.tuple #[.string pin, .int .i64 0]) ∧ Below w.heap.size w w'))
    (C24 : Hid (∀ w, Calls Tryd.prog 24 #[.string key] w fun e w' => ∃ g, e = .returned (.tuple #[.pointer (some ⟨g, 0, none⟩), .int .i64 0]) ∧ KeyAt w' g (kOne key) (kTwo key) ∧ Below w.heap.size w w'))
    (C25 : Hid (∀ g w, KeyAt w g (kOne key) (kTwo key) → Calls Tryd.prog 25 #[.pointer (some ⟨g, 0, none⟩), .string B] w fun e w' => e = .returned (.tuple #[.string S, .int .i64 0]) ∧ Below w.heap.size w w'))
    (hn : n < 9) (hm : m < 7) (hB : B.size = 8) (hS : S.size = 8) (hh : ((((bl B).getD 0 0).toNat / 16 : Nat) : Int) = f) :
    Calls Tryd.prog 7 #[.int .i64 a0, .string a1, .int .i64 a2, .string a3, .int .i64 a4, .string a5, .string a6] w fun e w' => e = .returned (.bool true) ∧ Below w.heap.size w w' := by
  have q4 : IntKind.i64.wrap (4 + (n : Int)) = 4 + (n : Int) := by rw [IntKind.wrap_i64]; omega
  have q13 : IntKind.i64.wrap (13 + (m : Int)) = 13 + (m : Int) := by rw [IntKind.wrap_i64]; omega
  have HH := Lib.hid hh
  clear hh
  go_enter Tryd.func7, Tryd.ntmps7
  have HB := Lib.hid (Below.refl w.heap.size w)
  go_wp2_with (first
    | (go_at_call 9; (with_reducible refine (C9.out _).mono ?_); rintro e w9 ⟨rfl, hb⟩; have n0 := Lib.hid (below_next HB.out hb); clear HB hb; have HB := n0; clear n0)
    | (go_at_call 14; (with_reducible refine (C14.out _).mono ?_); rintro e w9 ⟨rfl, hb⟩; have n0 := Lib.hid (below_next HB.out hb); clear HB hb; have HB := n0; clear n0)
    | (go_at_call 17; (first | (with_reducible refine (C17a.out _).mono ?_) | (with_reducible refine (C17b.out _).mono ?_)); rintro e w9 ⟨rfl, hb⟩; have n0 := Lib.hid (below_next HB.out hb); clear HB hb; have HB := n0; clear n0)
    | (go_at_call 16; (first | (with_reducible refine (C16a.out _).mono ?_) | (with_reducible refine (C16b.out _).mono ?_)); rintro e w9 ⟨rfl, hb⟩; have n0 := Lib.hid (below_next HB.out hb); clear HB hb; have HB := n0; clear n0)
    | (go_at_call 15; (with_reducible refine (C15.out _).mono ?_); rintro e w9 ⟨rfl, hb⟩; have n0 := Lib.hid (below_next HB.out hb); clear HB hb; have HB := n0; clear n0)
    | (go_at_call 19; (with_reducible refine (C19.out _).mono ?_); rintro e w9 ⟨rfl, hb⟩; have n0 := Lib.hid (below_next HB.out hb); clear HB hb; have HB := n0; clear n0)
    | (go_at_call 10; (with_reducible refine (C10.out _).mono ?_); rintro e w9 ⟨rfl, hb⟩; have n0 := Lib.hid (below_next HB.out hb); (try (have k0 := Lib.hid (HK.out.below hb); clear HK; have HK := k0; clear k0)); clear HB hb; have HB := n0; clear n0)
    | (go_at_call 12; (with_reducible refine (C12.out _).mono ?_); rintro e w9 ⟨rfl, hb⟩; have n0 := Lib.hid (below_next HB.out hb); clear HB hb; have HB := n0; clear n0)
    | (go_at_call 22; (with_reducible refine (C22.out _).mono ?_); rintro e w9 ⟨rfl, hb⟩; have n0 := Lib.hid (below_next HB.out hb); clear HB hb; have HB := n0; clear n0)
    | (go_at_call 23; (with_reducible refine (C23.out _).mono ?_); rintro e w9 ⟨rfl, hb⟩; have n0 := Lib.hid (below_next HB.out hb); clear HB hb; have HB := n0; clear n0)
    | (go_at_call 24; (with_reducible refine (C24.out _).mono ?_); rintro e w9 ⟨g, rfl, hK, hb⟩; have HK := Lib.hid hK; clear hK; have n0 := Lib.hid (below_next HB.out hb); clear HB hb; have HB := n0; clear n0)
    | (go_at_call 25; (with_reducible refine (C25.out _ _ HK.out).mono ?_); rintro e w9 ⟨rfl, hb⟩; have n0 := Lib.hid (below_next HB.out hb); clear HB hb; have HB := n0; clear n0))
  go_ret
  refine ⟨?_, HB.out⟩
  have h0 := first_byte B (by omega)
  have hc := ((bl B).getD 0 0).toNat_lt
  have e : (wrap64 ((wrap64 ((B[0].toNat : Nat) : Int)).tdiv 16) == f) = true := by
    rw [h0, wrap_in (x := ((((bl B).getD 0 0).toNat : Nat) : Int)) (by omega) (by omega), Int.tdiv_eq_ediv_of_nonneg (by omega), wrap_in (by omega) (by omega),
      show ((((bl B).getD 0 0).toNat : Nat) : Int) / 16 = ((((bl B).getD 0 0).toNat / 16 : Nat) : Int) by omega, HH.out, beq_self_eq_true]
  exact congrArg (fun b => Ending.returned (Value.bool b)) e
theorem turnstilelaw6_PinBack.pure : True := trivial
theorem turnstilelaw6_PinBack.walk (_ : True) (a0 : Int) (a1 : ByteArray) (a2 : Int) (a3 : ByteArray) (a4 : Int) (a5 a6 : ByteArray) (w : World) (w0 : (Lit.int .i64 a0).wf = true) (s1 : a1.size ≤ 140737488351232) (w2 : (Lit.int .i64 a2).wf = true) (s3 : a3.size ≤ 140737488351232)
    (w4 : (Lit.int .i64 a4).wf = true) (s5 : a5.size ≤ 140737488351232) (s6 : a6.size ≤ 140737488351232) :
    Calls Tryd.prog 7 #[.int .i64 a0, .string a1, .int .i64 a2, .string a3, .int .i64 a4, .string a5, .string a6] w fun e w' => e = .returned (.bool true) ∧ Below w.heap.size w w' := by
  obtain ⟨p1, p2⟩ := i64_range w0
  obtain ⟨p3, p4⟩ := i64_range w2
  obtain ⟨p5, p6⟩ := i64_range w4
  obtain ⟨f, hf, e1⟩ := which_ok a0 p1 p2
  obtain ⟨n, hn, e2⟩ := pick_ok a2 9 (by decide) p3 p4
  obtain ⟨pin, hps, hpd, e3⟩ := digits_ok a1 (4 + n) (by omega) s1 1000 (by omega)
  obtain ⟨m, hm, e4⟩ := pick_ok a4 7 (by decide) p5 p6
  obtain ⟨pan, hqs, hqd, e5⟩ := digits_ok a3 (13 + m) (by omega) s3 1000 (by omega)
  obtain ⟨key, hk, e6⟩ := fit_ok a6 16 (by decide) s6 1000 (by decide)
  obtain ⟨ff, hff, e7⟩ := filling_ok f a5 (4 + n) (by omega) s5 1000 (by decide)
  have hp : digB (bl pin) 4 12 = true := digits_digB hps hpd 4 12 (by omega) (by omega)
  have hs : digB (bl pan) 13 19 = true := digits_digB hqs hqd 13 19 (by omega) (by omega)
  rw [← hps] at hff
  have hfs := fillOk_size hff
  have h8 := blkB_size f pin pan ff hf hp hs hff
  have hbk : blockR f pin pan ff = (blkB f pin pan ff, 0) := block_ok f pin pan ff hf hp (fun _ => hs) hff
  have hop : openR f (blkB f pin pan ff) pan = (pin, 0) := open_block f pin pan ff hf hp (fun _ => hs) hff
  have e4n : ((4 + n : Nat) : Int) = 4 + (n : Int) := by omega
  have e13m : ((13 + m : Nat) : Int) = 13 + (m : Int) := by omega
  refine back_walk a0 a1 a2 a3 a4 a5 a6 f n m pin pan key ff (blkB f pin pan ff) (sealN (kOne key) (kTwo key) (blkB f pin pan ff) false) w
    (Lib.hid fun w => turnstilelaw6_known.calls 1000 true w (lawknown_eq 1000 (by omega)))
    (Lib.hid fun w => turnstilelaw6_which.calls a0 f w e1)
    (Lib.hid fun w => (turnstilelaw6_pick.calls a2 9 (n : Int) w e2).mono fun e w' h => ⟨h.1, drawn_below h.2⟩)
    (Lib.hid fun w => ?_)
    (Lib.hid fun w => (turnstilelaw6_pick.calls a4 7 (m : Int) w e4).mono fun e w' h => ⟨h.1, drawn_below h.2⟩)
    (Lib.hid fun w => ?_)
    (Lib.hid fun w => turnstilelaw6_fit.calls 1000 a6 16 key w e6)
    (Lib.hid fun w => ?_)
    (Lib.hid fun w => ?_)
    (Lib.hid fun w => ?_)
    (Lib.hid fun w => pin_Seal.calls key f pin pan ff _ _ w (seal_ok key f pin pan ff hk hf hp hs hff))
    (Lib.hid fun w => pin_Unseal.calls key f _ pan _ _ w (unseal_ok key f pin pan ff hk hf hp hs hff))
    (Lib.hid fun w => (c24 key hk w).mono fun e w' ⟨g, h1, _, h2, h3⟩ => ⟨g, h1, h2, h3⟩)
    (Lib.hid fun g w hK => c25 g (kOne key) (kTwo key) (kOne_lt key) (kTwo_lt key) (blkB f pin pan ff) h8 w hK)
    hn hm h8 (sealN_size _ _ _ _) (blkB_half f pin pan ff hf hp hs hff)
  · rw [← e4n]
    exact turnstilelaw6_digits.calls 1000 a1 _ pin w e3
  · rw [← e13m]
    exact turnstilelaw6_digits.calls 1000 a3 _ pan w e5
  · rw [← e4n]
    exact turnstilelaw6_filling.calls 1000 f a5 _ ff w e7
  · have h := c10 f pin pan ff (by omega) (by omega) (by omega) w
    rw [hbk] at h
    exact h
  · have h := c12 f (blkB f pin pan ff) pan (by omega) w
    rw [hop] at h
    exact h
end Go.Proofs.YtkjjdodnkcmeiaaDoor.PX
