/- The law PinRight in plain Lean: what Open takes is a PIN, and Block lays it again. -/
import Derived.Test.YtkjjdodnkcmeiaaDoorPur7
import Derived.Test.YtkjjdodnkcmeiaaDoorPX17
import Derived.Test.YtkjjdodnkcmeiaaDoorPure1
namespace Go.Proofs.YtkjjdodnkcmeiaaDoor.PX
open Go.RowKit Go.Proofs.YtkjjdodnkcmeiaaDoorW.PrintWords Go.Proofs.YtkjjdodnkcmeiaaDoorW.PrintLast Go.Proofs.YtkjjdodnkcmeiaaDoorW.PrintMore

theorem i64_bounds {a : Int} (h : (Lit.int .i64 a).wf = true) : -9223372036854775808 ≤ a ∧ a ≤ 9223372036854775807 := by
  have h' : (decide (IntKind.i64.min ≤ a) && decide (a ≤ IntKind.i64.max)) = true := h
  rw [Bool.and_eq_true, decide_eq_true_eq, decide_eq_true_eq, show IntKind.i64.min = -9223372036854775808 from rfl, show IntKind.i64.max = 9223372036854775807 from rfl] at h'
  exact h'
theorem openL_err (a0 : Int) (L : List Nat) (p : ByteArray) (e : Int) (h : openL a0 L = (p, e)) (he : e ≠ 0) : p = bsOf [] ∧ e = 60 := by
  unfold openL at h
  by_cases hn : L.getD 1 0 < 4 ∨ 12 < L.getD 1 0
  · rw [if_pos hn] at h; cases h; exact ⟨rfl, rfl⟩
  · rw [if_neg hn] at h
    cases hok : okFrom a0 (L.getD 1 0) 2 (L.drop 2) with
    | true => rw [hok, cond_true] at h; cases h; exact absurd rfl he
    | false => rw [hok, cond_false] at h; cases h; exact ⟨rfl, rfl⟩
theorem openR_err (a0 : Int) (blk pan : ByteArray) (hs : digB (bl pan) 13 19 = true) (h013 : a0 = 0 ∨ a0 = 1 ∨ a0 = 3) (h8 : blk.size = 8) (p : ByteArray) (e : Int) (h : openR a0 blk pan = (p, e)) (he : e ≠ 0) :
    p = bsOf [] ∧ (e = 61 ∧ ((((bl blk).getD 0 0).toNat / 16 : Nat) : Int) ≠ a0 ∨ e = 60 ∧ ((((bl blk).getD 0 0).toNat / 16 : Nat) : Int) = a0) := by
  unfold openR knownB at h
  by_cases hh : ((((bl blk).getD 0 0).toNat / 16 : Nat) : Int) = a0
  · rw [if_pos ⟨decide_eq_true h013, h8, hh⟩, if_neg (by rw [hs]; simp)] at h
    obtain ⟨e1, e2⟩ := openL_err a0 _ p e h he
    exact ⟨e1, Or.inr ⟨e2, hh⟩⟩
  · rw [if_neg (fun h => hh h.2.2)] at h
    cases h
    exact ⟨rfl, Or.inl ⟨rfl, hh⟩⟩
theorem turnstilelaw6_PinRight.pure : turnstilelaw6_PinRight.Pure := by
  intro a0 a1 a2 a3 w0 s1 s2 w3
  obtain ⟨b1, b2⟩ := i64_bounds w0
  obtain ⟨c1, c2⟩ := i64_bounds w3
  obtain ⟨f, hf, e1⟩ := which_ok a0 b1 b2
  obtain ⟨blk, h8, e2⟩ := fit_ok a1 8 (by decide) s1 1000 (by decide)
  obtain ⟨r, hr, e3⟩ := pick_ok a3 7 (by decide) c1 c2
  obtain ⟨pan, hps, hpd, e4⟩ := digits_ok a2 (13 + r) (by omega) s2 1000 (by omega)
  have hpan : digB (bl pan) 13 19 = true := digits_digB hps hpd 13 19 (by omega) (by omega)
  refine ⟨1000, ?_⟩
  unfold turnstilelaw6_PinRight.f
  rw [lawknown_eq _ (by omega), Option.bind_some, e1, Option.bind_some, show (8 : Int) = ((8 : Nat) : Int) from rfl, e2, Option.bind_some, show (7 : Int) = ((7 : Nat) : Int) from rfl, e3, Option.bind_some,
    show wrap64 (13 + (r : Int)) = ((13 + r : Nat) : Int) by rw [wrap_in (by omega) (by omega)]; omega, e4, Option.bind_some, popen_eq f blk pan (by omega) 1000 (by omega), Option.bind_some]
  have hc := ((bl blk).getD 0 0).toNat_lt
  have w1 : wrap64 (bt blk 0) = ((((bl blk).getD 0 0).toNat : Nat) : Int) := by
    rw [show (0 : Int) = ((0 : Nat) : Int) from rfl, bt_nat, wrap_in (by omega) (by omega)]
  cases ho : openR f blk pan with
  | mk p e =>
    dsimp only
    by_cases he : e = 0
    · subst he
      obtain ⟨h013, _, hh, hs, hl⟩ := openR_inv f blk pan p ho
      obtain ⟨t1, t2, t3⟩ := open_len f blk pan h8 hs
      obtain ⟨n4, n12, hn, hp, hm, h15⟩ := openL_inv f _ t1 p hl
      rw [t3] at n4 n12 hn
      obtain ⟨l1, l2, l3⟩ := digB_len hp
      rw [bl_length] at l1 l2
      obtain ⟨fl, hfl, e5⟩ := filling_ok f (⟨#[]⟩ : ByteArray) p.size l2 (by decide) 999 (by decide)
      have e6 : Int.tmod (wrap64 (bt blk 0)) 16 = (p.size : Int) := by rw [w1, Int.tmod_eq_emod_of_nonneg (by omega), hn]; omega
      have hfs : fl.size ≤ 140737488355328 := by
        by_cases h0 : f = 0
        · have := hfl.1 h0; omega
        · have := (hfl.2 h0).1; omega
      rw [if_pos rfl, lnumber_ok p (by omega) l3 1000 (by omega), Option.bind_some, if_neg (by omega), if_neg (by omega), if_pos (by omega), if_pos e6.symm,
        turnstilelaw6_PinRight.j0.eq_2, if_neg (by decide), e5, Option.bind_some, pblock_eq _ _ _ _ (by omega) (by omega) hfs, Option.bind_some]
      have hob := open_block f p pan fl h013 hp (fun _ => hpan) hfl
      rw [block_ok f p pan fl h013 hp (fun _ => hpan) hfl, popen_eq _ _ _ (by omega) 999 (by omega), Option.bind_some, hob, if_pos rfl, if_pos rfl, if_pos rfl, if_pos rfl]
      by_cases h0 : f = 0
      · subst h0
        have := block_open0 blk pan p fl (hfl.1 rfl) ho
        rw [block_ok 0 p pan fl h013 hp (fun _ => hpan) hfl] at this
        rw [if_pos rfl, (Prod.mk.inj this).1]
        simp
      · rw [if_neg h0]
    · obtain ⟨hp0, hee⟩ := openR_err f blk pan hpan hf h8 p e ho he
      have w2 : wrap64 (Int.tdiv (wrap64 (bt blk 0)) 16) = ((((bl blk).getD 0 0).toNat / 16 : Nat) : Int) := by
        rw [w1, Int.tdiv_eq_ediv_of_nonneg (by omega), wrap_in (by omega) (by omega)]
        omega
      rw [if_neg he, if_pos rfl, if_pos (by rw [hp0]; exact (toList_eq_nil _).2 rfl), w2]
      rcases hee with ⟨rfl, hh⟩ | ⟨rfl, hh⟩
      · rw [if_pos rfl, if_pos (by omega), bne_iff_ne.mpr hh]
        rfl
      · rw [if_neg (by decide), if_pos rfl, if_pos (by omega), bne_eq_false_iff_eq.mpr hh]
        rfl
end Go.Proofs.YtkjjdodnkcmeiaaDoor.PX
