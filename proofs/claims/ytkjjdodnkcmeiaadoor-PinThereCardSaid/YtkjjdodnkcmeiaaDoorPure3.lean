/- The law PinThere in plain Lean: from one key to another, and back. -/
import Derived.Test.YtkjjdodnkcmeiaaDoorPur7
import Derived.Test.YtkjjdodnkcmeiaaDoorCi5
import Derived.Test.YtkjjdodnkcmeiaaDoorPX28
namespace Go.Proofs.YtkjjdodnkcmeiaaDoor.PX
open Go.RowKit Go.Proofs.YtkjjdodnkcmeiaaDoorW.PrintWords Go.Proofs.YtkjjdodnkcmeiaaDoorW.PrintLast Go.Proofs.YtkjjdodnkcmeiaaDoorW.PrintMore

theorem i64_range {a : Int} (h : (Lit.int .i64 a).wf = true) : -9223372036854775808 ≤ a ∧ a ≤ 9223372036854775807 := by
  have h' : (decide (IntKind.i64.min ≤ a) && decide (a ≤ IntKind.i64.max)) = true := h
  rw [Bool.and_eq_true, decide_eq_true_eq, decide_eq_true_eq, show IntKind.i64.min = -9223372036854775808 from rfl, show IntKind.i64.max = 9223372036854775807 from rfl] at h'
  exact h'
/-- The sealed block of what may be laid. -/
def blkB (a0 : Int) (pin pan a3 : ByteArray) : ByteArray := bsOf (packL (sixteenN a0 pin pan a3))
theorem blkB_size (a0 : Int) (pin pan a3 : ByteArray) (h013 : a0 = 0 ∨ a0 = 1 ∨ a0 = 3) (hp : digB (bl pin) 4 12 = true) (hs : digB (bl pan) 13 19 = true) (hf : FillOk a0 pin.size a3) : (blkB a0 pin pan a3).size = 8 := by
  unfold blkB
  rw [bsOf_size, packL_length, (sixteenN_ok a0 pin pan a3 h013 hp (fun _ => hs) hf).1]
theorem fillOk_size {a0 : Int} {n : Nat} {a3 : ByteArray} (h : FillOk a0 n a3) : a3.size ≤ 14 := by
  by_cases h0 : a0 = 0
  · have := h.1 h0; omega
  · have := (h.2 h0).1; omega
theorem seal_ok (key : ByteArray) (a0 : Int) (pin pan a3 : ByteArray) (hk : key.size = 16) (h013 : a0 = 0 ∨ a0 = 1 ∨ a0 = 3) (hp : digB (bl pin) 4 12 = true) (hs : digB (bl pan) 13 19 = true) (hf : FillOk a0 pin.size a3) :
    pin_Seal.f key a0 pin pan a3 = some (sealN (kOne key) (kTwo key) (blkB a0 pin pan a3) false, 0) := by
  obtain ⟨l1, l2, l3⟩ := digB_len hp
  obtain ⟨m1, m2, m3⟩ := digB_len hs
  rw [bl_length] at l1 l2 m1 m2
  have := fillOk_size hf
  unfold pin_Seal.f sealR
  rw [if_pos ⟨by omega, by omega, by omega⟩, if_pos hk, block_ok a0 pin pan a3 h013 hp (fun _ => hs) hf]
  rfl
theorem unseal_ok (key : ByteArray) (a0 : Int) (pin pan a3 : ByteArray) (hk : key.size = 16) (h013 : a0 = 0 ∨ a0 = 1 ∨ a0 = 3) (hp : digB (bl pin) 4 12 = true) (hs : digB (bl pan) 13 19 = true) (hf : FillOk a0 pin.size a3) :
    pin_Unseal.f key a0 (sealN (kOne key) (kTwo key) (blkB a0 pin pan a3) false) pan = some (pin, 0) := by
  obtain ⟨m1, m2, m3⟩ := digB_len hs
  rw [bl_length] at m1 m2
  have h8 := blkB_size a0 pin pan a3 h013 hp hs hf
  have hz := sealN_size (kOne key) (kTwo key) (blkB a0 pin pan a3) false
  unfold pin_Unseal.f unsealR
  rw [if_pos ⟨by omega, by omega⟩, if_pos hk, if_pos hz, show sealN (kOne key) (kTwo key) (sealN (kOne key) (kTwo key) (blkB a0 pin pan a3) false) true = blkB a0 pin pan a3 from seal_back _ _ _ h8 false]
  unfold blkB
  rw [open_block a0 pin pan a3 h013 hp (fun _ => hs) hf]
theorem move_ok (key key2 : ByteArray) (a0 b0 : Int) (pin pan a3 b3 : ByteArray) (hk : key.size = 16) (hk2 : key2.size = 16) (ha : a0 = 0 ∨ a0 = 1 ∨ a0 = 3) (hb : b0 = 0 ∨ b0 = 1 ∨ b0 = 3) (hp : digB (bl pin) 4 12 = true) (hs : digB (bl pan) 13 19 = true)
    (hf : FillOk a0 pin.size a3) (hg : FillOk b0 pin.size b3) (k : Nat) (hkk : 0 < k) :
    pin_Move.f k key key2 a0 b0 (sealN (kOne key) (kTwo key) (blkB a0 pin pan a3) false) pan b3 = some (sealN (kOne key2) (kTwo key2) (blkB b0 pin pan b3) false, 0) := by
  obtain ⟨k, rfl⟩ : ∃ m, k = m + 1 := ⟨k - 1, by omega⟩
  unfold pin_Move.f
  rw [if_pos (by omega), pin_Move.j0.eq_2, if_neg (by rw [bne_iff_ne]; simp; omega), unseal_ok key a0 pin pan a3 hk ha hp hs hf, Option.bind_some, if_pos rfl, seal_ok key2 b0 pin pan b3 hk2 hb hp hs hg, Option.bind_some]
theorem turnstilelaw6_PinThere.pure : turnstilelaw6_PinThere.Pure := by
  intro a0 a1 a2 a3 a4 a5 a6 a7 a8 a9 s0 w1 s2 w3 s4 s5 w6 w7 s8 s9
  obtain ⟨p1, p2⟩ := i64_range w1
  obtain ⟨p3, p4⟩ := i64_range w3
  obtain ⟨p5, p6⟩ := i64_range w6
  obtain ⟨p7, p8⟩ := i64_range w7
  obtain ⟨n, hn, e1⟩ := pick_ok a1 9 (by decide) p1 p2
  obtain ⟨pin, hps, hpd, e2⟩ := digits_ok a0 (4 + n) (by omega) s0 1000 (by omega)
  obtain ⟨m, hm, e3⟩ := pick_ok a3 7 (by decide) p3 p4
  obtain ⟨pan, hqs, hqd, e4⟩ := digits_ok a2 (13 + m) (by omega) s2 1000 (by omega)
  obtain ⟨ka, hka, e5⟩ := fit_ok a4 16 (by decide) s4 1000 (by decide)
  obtain ⟨kb, hkb, e6⟩ := fit_ok a5 16 (by decide) s5 1000 (by decide)
  obtain ⟨f, hf, e7⟩ := which_ok a6 p5 p6
  obtain ⟨g, hg, e8⟩ := which_ok a7 p7 p8
  obtain ⟨ff, hff, e9⟩ := filling_ok f a8 (4 + n) (by omega) s8 1000 (by decide)
  obtain ⟨gg, hgg, e10⟩ := filling_ok g a9 (4 + n) (by omega) s9 1000 (by decide)
  have hp : digB (bl pin) 4 12 = true := digits_digB hps hpd 4 12 (by omega) (by omega)
  have hs : digB (bl pan) 13 19 = true := digits_digB hqs hqd 13 19 (by omega) (by omega)
  rw [← hps] at hff hgg
  refine ⟨1000, ?_⟩
  unfold turnstilelaw6_PinThere.f
  rw [lawknown_eq _ (by omega), Option.bind_some, show (9 : Int) = ((9 : Nat) : Int) from rfl, e1, Option.bind_some, show wrap64 (4 + (n : Int)) = ((4 + n : Nat) : Int) by rw [wrap_in (by omega) (by omega)]; omega,
    e2, Option.bind_some, show (7 : Int) = ((7 : Nat) : Int) from rfl, e3, Option.bind_some, show wrap64 (13 + (m : Int)) = ((13 + m : Nat) : Int) by rw [wrap_in (by omega) (by omega)]; omega,
    e4, Option.bind_some, show (16 : Int) = ((16 : Nat) : Int) from rfl, e5, Option.bind_some, e6, Option.bind_some, e7, Option.bind_some, e8, Option.bind_some, e9, Option.bind_some,
    seal_ok ka f pin pan ff hka hf hp hs hff, Option.bind_some, e10, Option.bind_some]
  dsimp only
  rw [move_ok ka kb f g pin pan ff gg hka hkb hf hg hp hs hff hgg 1000 (by decide), Option.bind_some]
  dsimp only
  rw [unseal_ok kb g pin pan gg hkb hg hp hs hgg, Option.bind_some, Option.bind_some, move_ok kb ka g f pin pan gg ff hkb hka hg hf hp hs hgg hff 1000 (by decide), Option.bind_some,
    if_pos rfl, if_pos rfl, if_pos rfl, if_pos rfl, if_pos rfl, if_pos rfl]
  simp
end Go.Proofs.YtkjjdodnkcmeiaaDoor.PX
