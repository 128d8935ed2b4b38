/- The reference's Block answers what pin.Block answers. -/
import Derived.Test.YtkjjdodnkcmeiaaDoorPur2
import Derived.Test.YtkjjdodnkcmeiaaDoorPX9
import Derived.Test.YtkjjdodnkcmeiaaDoorBlock
namespace Go.Proofs.YtkjjdodnkcmeiaaDoor.PX
open Go.RowKit Go.Proofs.YtkjjdodnkcmeiaaDoorW.PrintWords Go.Proofs.YtkjjdodnkcmeiaaDoorW.PrintLast Go.Proofs.YtkjjdodnkcmeiaaDoorW.PrintMore

theorem byteOf_xor (a b c d : Nat) (ha : a < 16) (hb : b < 16) (hc : c < 16) (hd : d < 16) : byteOf (a ^^^ c) (b ^^^ d) = byteOf a b ^^^ byteOf c d := by
  have h1 : ∀ (a b : Fin 16), byteOf a.1 b.1 = byteOf a.1 0 ^^^ byteOf 0 b.1 := by decide +kernel
  have h2 : ∀ (a c : Fin 16), byteOf (a.1 ^^^ c.1) 0 = byteOf a.1 0 ^^^ byteOf c.1 0 := by decide +kernel
  have h3 : ∀ (a c : Fin 16), byteOf 0 (a.1 ^^^ c.1) = byteOf 0 a.1 ^^^ byteOf 0 c.1 := by decide +kernel
  have h4 : ∀ (a c : Fin 16), a.1 ^^^ c.1 < 16 := by decide
  have e1 := h1 ⟨a ^^^ c, h4 ⟨a, ha⟩ ⟨c, hc⟩⟩ ⟨b ^^^ d, h4 ⟨b, hb⟩ ⟨d, hd⟩⟩
  have e2 := h2 ⟨a, ha⟩ ⟨c, hc⟩
  have e3 := h3 ⟨b, hb⟩ ⟨d, hd⟩
  have e4 := h1 ⟨a, ha⟩ ⟨b, hb⟩
  have e5 := h1 ⟨c, hc⟩ ⟨d, hd⟩
  simp only at e1 e2 e3 e4 e5
  rw [e1, e2, e3, e4, e5]
  ac_rfl
theorem packL_xor : ∀ (l p : List Nat), l.length = p.length → (∀ n ∈ l, n < 16) → (∀ n ∈ p, n < 16) → packL (xorN l p) = xorB (packL l) (packL p)
  | [], [], _, _, _ => rfl
  | [a], [c], _, _, _ => rfl
  | a :: b :: l, c :: d :: p, h, h1, h2 => by
    have ih := packL_xor l p (by simpa using h) (fun n hn => h1 n (by simp [hn])) (fun n hn => h2 n (by simp [hn]))
    unfold xorN xorB at *
    simp only [List.zipWith_cons_cons, packL]
    rw [ih, byteOf_xor a b c d (h1 a (by simp)) (h1 b (by simp)) (h2 c (by simp)) (h2 d (by simp))]
  | [], _ :: _, h, _, _ => by simp at h
  | _ :: _, [], h, _, _ => by simp at h
  | [_], _ :: _ :: _, h, _, _ => by simp at h
  | _ :: _ :: _, [_], h, _, _ => by simp at h

theorem blkS_nibs (f : Nat) (pin fill : ByteArray) (hf : f < 16) (hp : pin.size < 16) : (blkS f pin fill).map nib = f :: pin.size :: ((bl pin).map nib ++ (bl fill).map nib) := by
  obtain ⟨c, e1, _, e2⟩ := sgn_at f hf
  obtain ⟨d, g1, _, g2⟩ := sgn_at pin.size hp
  unfold blkS
  simp only [List.map_cons, List.map_nil, List.flatten_cons, List.flatten_nil, List.append_nil, e1, g1, List.map_append, e2, g2]
  rfl

/-! ### the three stages of the reference's Block -/
def outR (a0 : Int) (F : List Nat) (a2 : ByteArray) : ByteArray × Int := (mkB (packL (if a0 = 1 then F else xorN F (panL (bl a2)))), 0)
theorem rblock_l1 (a0 : Int) (a1 a2 a3 : ByteArray) (F : List Nat) (hF : F.length = 16) (h16 : ∀ n ∈ F, n < 16) (hs : a0 ≠ 1 → digB (bl a2) 13 19 = true) (hn : a1.size ≤ 12)
    (hfill : ∀ m, 2 + a1.size ≤ m → m < 16 → (a0 = 0 → F.getD m 0 = 15) ∧ (a0 ≠ 0 → m - 2 - a1.size < a3.size ∧ Lib.indexByte (bl sgnB) ((bl a3).getD (m - 2 - a1.size) 0) = ((F.getD m 0 : Nat) : Int))) :
    ∀ (d k m : Nat), m + d = 16 → 2 + a1.size ≤ m → d + 40 < k → turnstileref6_Block.l1 k a0 a1 a2 a3 (natI (F.take m)) = some (outR a0 F a2) := by
  intro d
  induction d with
  | zero =>
    intro k m hm h2 hk
    obtain ⟨k, rfl⟩ : ∃ m, k = m + 1 := ⟨k - 1, by omega⟩
    have hx : ∀ n ∈ (if a0 = 1 then F else xorN F (panL (bl a2))), n < 16 := by
      by_cases h : a0 = 1
      · rw [if_pos h]; exact h16
      · rw [if_neg h]
        obtain ⟨p1, p2⟩ := panL_ok _ (hs h)
        intro n hn
        unfold xorN at hn
        obtain ⟨i, hi, rfl⟩ := List.getElem_of_mem hn
        rw [List.getElem_zipWith]
        have h4 : ∀ (a c : Fin 16), a.1 ^^^ c.1 < 16 := by decide
        rw [List.length_zipWith] at hi
        exact h4 ⟨_, h16 _ (List.getElem_mem (by omega))⟩ ⟨_, p2 _ (List.getElem_mem (by omega))⟩
    have hl : (if a0 = 1 then F else xorN F (panL (bl a2))).length = 16 := by
      by_cases h : a0 = 1
      · rw [if_pos h]; exact hF
      · rw [if_neg h]
        obtain ⟨p1, p2⟩ := panL_ok _ (hs h)
        unfold xorN
        rw [List.length_zipWith, hF, p1]
        rfl
    rw [turnstileref6_Block.l1.eq_2, natI_length, List.take_of_length_le (by omega), if_neg (by omega), rmixed_eq a0 F a2 hF h16 hs k (by omega), Option.bind_some,
      rbytes_eq _ (by omega) hx (by omega) k (by omega)]
    rfl
  | succ d ih =>
    intro k m hm h2 hk
    obtain ⟨k, rfl⟩ : ∃ m, k = m + 1 := ⟨k - 1, by omega⟩
    have hlen : (F.take m).length = m := by rw [List.length_take]; omega
    have hstep : natI (F.take m) ++ [((F.getD m 0 : Nat) : Int)] = natI (F.take (m + 1)) := by
      rw [List.take_succ_eq_append_getElem (by omega : m < F.length), List.getD_eq_getElem?_getD, List.getElem?_eq_getElem (by omega)]
      simp only [natI, List.map_append, List.map_cons, List.map_nil, Option.getD_some]
    obtain ⟨f0, f1⟩ := hfill m h2 (by omega)
    rw [turnstileref6_Block.l1.eq_2, natI_length, hlen, if_pos (by omega)]
    by_cases h : a0 = 0
    · rw [if_pos h, if_pos (by omega)]
      have e := f0 h
      rw [e] at hstep
      rw [show (15 : Int) = ((15 : Nat) : Int) from rfl, hstep]
      exact ih k (m + 1) (by omega) (by omega) (by omega)
    · obtain ⟨g1, g2⟩ := f1 h
      have e : wrap64 (wrap64 ((m : Int) - 2) - (a1.size : Int)) = ((m - 2 - a1.size : Nat) : Int) := by
        rw [wrap_in (x := (m : Int) - 2) (by omega) (by omega), wrap_in (by omega) (by omega)]; omega
      rw [if_neg h, e, if_pos (by omega), if_pos (by omega), bt_nat, sixteenth_eq _ k (by omega), Option.bind_some, if_pos (by omega), g2, hstep]
      exact ih k (m + 1) (by omega) (by omega) (by omega)
theorem rblock_l0 (a0 : Int) (a1 a2 a3 : ByteArray) (F : List Nat) (r : ByteArray × Int) (hp : digB (bl a1) 4 12 = true) (f : Nat) (R : List Nat) (hFl : F = f :: a1.size :: ((bl a1).map nib ++ R))
    (h : ∀ k, 60 < k → turnstileref6_Block.l1 k a0 a1 a2 a3 (natI (F.take (2 + a1.size))) = some r) :
    ∀ (d k i : Nat), i + d = a1.size → d + 61 < k → turnstileref6_Block.l0 k a0 a1 a2 a3 (natI (F.take (2 + i))) (i : Int) = some r := by
  obtain ⟨l1, l2, l3⟩ := digB_len hp
  rw [bl_length] at l1 l2
  intro d
  induction d with
  | zero =>
    intro k i hi hk
    obtain ⟨k, rfl⟩ : ∃ m, k = m + 1 := ⟨k - 1, by omega⟩
    rw [turnstileref6_Block.l0.eq_2, if_neg (by omega), show i = a1.size by omega]
    exact h k (by omega)
  | succ d ih =>
    intro k i hi hk
    obtain ⟨k, rfl⟩ : ∃ m, k = m + 1 := ⟨k - 1, by omega⟩
    have hc := l3 _ (getD_mem (bl a1) i 0 (by rw [bl_length]; omega))
    have hstep : natI (F.take (2 + i)) ++ [((nib ((bl a1).getD i 0) : Nat) : Int)] = natI (F.take (2 + (i + 1))) := by
      rw [hFl, show 2 + (i + 1) = i + 1 + 1 + 1 by omega, show 2 + i = i + 1 + 1 by omega]
      simp only [List.take_succ_cons]
      have h1 : i < ((bl a1).map nib ++ R).length := by simp [bl_length]; omega
      rw [List.take_succ_eq_append_getElem h1, List.getElem_append_left (by simp [bl_length]; omega), List.getElem_map, List.getD_eq_getElem?_getD, List.getElem?_eq_getElem (by rw [bl_length]; omega)]
      simp [natI]
    have hlen : (natI (F.take (2 + i))).length ≤ 100 := by rw [natI_length, List.length_take]; omega
    rw [turnstileref6_Block.l0.eq_2, if_pos (by omega), if_pos (by omega), if_pos (by omega), bt_nat, dig_val _ hc, hstep, wrap_succ (by omega)]
    exact ih k (i + 1) (by omega) (by omega)

theorem rfill_within (a0 : Int) (a3 : ByteArray) (room : Int) (h0 : a0 ≠ 0) :
    filledB a0 a3 room = withinB (bl a3) (bl (if a0 = 3 then sgnB.extract 10 16 else sgnB)) room room := by
  have hx : ∀ n : Fin 256, (bl (sgnB.extract 10 16)).contains (UInt8.ofNat n.1) = (isSgn (UInt8.ofNat n.1) && decide (10 ≤ nib (UInt8.ofNat n.1))) := by decide +kernel
  have hx' : ∀ c : UInt8, (bl (sgnB.extract 10 16)).contains c = (isSgn c && decide (10 ≤ nib c)) := by
    intro c
    have := hx ⟨c.toNat, c.toNat_lt⟩
    simpa only [UInt8.ofNat_toNat] using this
  unfold filledB withinB
  rw [if_neg h0, bl_length]
  have hd : decide ((a3.size : Int) = room) = (decide (room ≤ (a3.size : Int)) && decide ((a3.size : Int) ≤ room)) := by
    rw [← Bool.decide_and]
    congr 1
    exact propext ⟨fun h => ⟨by omega, by omega⟩, fun h => by omega⟩
  rw [hd, Bool.and_assoc]
  congr 2
  funext c
  by_cases h3 : a0 = 3
  · rw [if_pos h3, hx']
    simp [okFill, h3]
  · rw [if_neg h3]
    simp [okFill, h3, isSgn]
theorem rblock_ok (a0 : Int) (f : Nat) (hf : a0 = (f : Int)) (hf3 : f < 16) (a1 a2 a3 fill : ByteArray) (hp : digB (bl a1) 4 12 = true) (hs : a0 ≠ 1 → digB (bl a2) 13 19 = true) (hl : fill.size = 14 - a1.size) (hg : ∀ c ∈ bl fill, isSgn c = true)
    (h0 : a0 = 0 → fill = effs (14 - a1.size)) (h1 : a0 ≠ 0 → fill = a3) (k : Nat) (hk : 100 < k) :
    turnstileref6_Block.l0 k a0 a1 a2 a3 ([a0, (a1.size : Int)] : List Int) 0 = some (outR a0 ((blkS f a1 fill).map nib) a2) := by
  obtain ⟨l1, l2, l3⟩ := digB_len hp
  rw [bl_length] at l1 l2
  have hF := blkS_nibs f a1 fill hf3 (by omega)
  obtain ⟨k1, k2⟩ := blkS_ok f a1 fill hf3 hp hl hg
  have h16 : ∀ n ∈ (blkS f a1 fill).map nib, n < 16 := by
    intro n hn
    obtain ⟨c, hc, rfl⟩ := List.mem_map.1 hn
    exact (nib_lt c (k2 c hc)).1
  have hfill : ∀ m, 2 + a1.size ≤ m → m < 16 → ((blkS f a1 fill).map nib).getD m 0 = nib ((bl fill).getD (m - 2 - a1.size) 0) ∧ m - 2 - a1.size < fill.size := by
    intro m hm1 hm2
    rw [hF]
    obtain ⟨j, rfl⟩ : ∃ j, m = a1.size + j + 1 + 1 := ⟨m - a1.size - 2, by omega⟩
    have hj : j < (bl fill).length := by rw [bl_length]; omega
    simp only [List.getD_cons_succ]
    rw [List.getD_eq_getElem?_getD, List.getElem?_append_right (by simp [bl_length]), List.length_map, bl_length, show a1.size + j - a1.size = j by omega, List.getElem?_map, List.getElem?_eq_getElem hj,
      show a1.size + j + 1 + 1 - 2 - a1.size = j by omega, List.getD_eq_getElem?_getD, List.getElem?_eq_getElem hj]
    exact ⟨rfl, by rw [bl_length] at hj; exact hj⟩
  have L1 := rblock_l1 a0 a1 a2 a3 ((blkS f a1 fill).map nib) (by rw [List.length_map, k1]) h16 hs l2 (fun m hm1 hm2 => by
    obtain ⟨g1, g2⟩ := hfill m hm1 hm2
    refine ⟨fun h => ?_, fun h => ?_⟩
    · rw [g1]
      have hc : (bl fill).getD (m - 2 - a1.size) 0 ∈ bl fill := getD_mem _ _ _ (by rw [bl_length]; exact g2)
      have he : (bl fill).getD (m - 2 - a1.size) 0 = 70 := by
        rw [h0 h] at hc ⊢
        unfold effs at hc ⊢
        rw [bl_mk (List.replicate _ 70)] at hc ⊢
        exact (List.mem_replicate.1 hc).2
      rw [he]
      decide
    · rw [← h1 h, g1]
      refine ⟨g2, ?_⟩
      exact (nib_lt _ (hg _ (getD_mem _ _ _ (by rw [bl_length]; exact g2)))).2) (14 - a1.size)
  have L0 := rblock_l0 a0 a1 a2 a3 ((blkS f a1 fill).map nib) _ hp f _ hF (fun k hk => L1 k (2 + a1.size) (by omega) (by omega) (by omega)) a1.size k 0 (by omega) (by omega)
  rw [hF] at L0 ⊢
  simp only [Nat.add_zero, List.take_succ_cons, List.take_zero, natI, List.map_cons, List.map_nil] at L0
  rw [hf]
  rw [hf] at L0
  exact L0
theorem rblock_eq (a0 : Int) (a1 a2 a3 : ByteArray) (s1 : a1.size ≤ 140737488355328) (s2 : a2.size ≤ 140737488355328) (s3 : a3.size ≤ 140737488355328) (k : Nat) (hk : 102 + a1.size + a2.size + a3.size < k) :
    turnstileref6_Block.f k a0 a1 a2 a3 = some (blockR a0 a1 a2 a3) := by
  have ew : ∀ (h : digB (bl a1) 4 12 = true), wrap64 (14 - (a1.size : Int)) = 14 - (a1.size : Int) := fun h => wrap_in (by omega) (by omega)
  unfold turnstileref6_Block.f
  rw [rknown_eq, Option.bind_some, risPIN_eq a1 s1 k (by omega), Option.bind_some, risPAN_eq a2 s2 k (by omega), Option.bind_some, rfilled_eq a0 a3 _ s3 k (by omega), Option.bind_some]
  unfold blockR knownB
  by_cases hk0 : a0 = 0 ∨ a0 = 1 ∨ a0 = 3
  · rw [if_pos (by simpa using hk0), if_pos hk0]
    by_cases hp : digB (bl a1) 4 12 = true
    · rw [if_pos hp, if_pos hp, ew hp]
      obtain ⟨l1, l2, l3⟩ := digB_len hp
      rw [bl_length] at l1 l2
      obtain ⟨k, rfl⟩ : ∃ m, k = m + 1 := ⟨k - 1, by omega⟩
      rw [turnstileref6_Block.j0.eq_2, turnstileref6_Block.j0.eq_2]
      rcases hk0 with rfl | rfl | rfl
      · rw [if_neg (show ¬ (0 : Int) = 1 by decide)]
        by_cases hs : digB (bl a2) 13 19 = true
        · rw [if_neg (show ¬ (!digB (bl a2) 13 19) = true by simp [hs]), if_neg (show ¬ ((0 : Int) ≠ 1 ∧ digB (bl a2) 13 19 = false) by simp [hs]), if_pos (show (0 : Int) = 0 from rfl)]
          unfold filledB
          rw [if_pos (show (0 : Int) = 0 from rfl)]
          by_cases h3 : a3.size = 0
          · rw [if_pos (by simpa using h3), if_pos h3]
            rw [rblock_ok 0 0 rfl (by decide) a1 a2 a3 (effs (14 - a1.size)) hp (fun _ => hs) (effs_size _) (effs_sgn _) (fun _ => rfl) (fun h => absurd rfl h) k (by omega)]
            unfold outR
            rw [if_neg (show ¬ (0 : Int) = 1 by decide)]
            obtain ⟨p1, p2⟩ := panL_ok _ hs
            obtain ⟨q1, q2⟩ := blkS_ok 0 a1 (effs (14 - a1.size)) (by decide) hp (effs_size _) (effs_sgn _)
            rw [packL_xor _ _ (by rw [List.length_map, q1, p1]) (fun n hn => by obtain ⟨c, hc, rfl⟩ := List.mem_map.1 hn; exact (nib_lt c (q2 c hc)).1) p2]
          · rw [if_neg (by simpa using h3), if_neg h3]
            rfl
        · have hs' : digB (bl a2) 13 19 = false := by simpa using hs
          rw [if_pos (show (!digB (bl a2) 13 19) = true by simp [hs']), if_pos ⟨by decide, hs'⟩]
          rfl
      · rw [if_pos (show (1 : Int) = 1 from rfl), if_neg (show ¬ (false = true) by decide), if_neg (show ¬ ((1 : Int) ≠ 1 ∧ digB (bl a2) 13 19 = false) by simp), if_neg (show ¬ (1 : Int) = 0 by decide), rfill_within 1 a3 _ (by decide), if_neg (show ¬ (1 : Int) = 3 by decide), if_pos (show (1 : Int) = 1 from rfl)]
        by_cases hw : withinB (bl a3) (bl sgnB) (14 - (a1.size : Int)) (14 - (a1.size : Int)) = true
        · rw [if_pos hw, if_pos hw, if_pos rfl]
          obtain ⟨q1, q2⟩ := cat_len 1 a1 a3 (by decide) hp sgnB sgnB_sgn hw
          have hsz : a3.size = 14 - a1.size := by
            unfold withinB at hw
            simp only [Bool.and_eq_true, decide_eq_true_eq, bl_length] at hw
            omega
          have hg : ∀ c ∈ bl a3, isSgn c = true := by
            intro c hc
            unfold withinB at hw
            simp only [Bool.and_eq_true, List.all_eq_true] at hw
            exact hw.1.1 c hc
          rw [rblock_ok 1 1 rfl (by decide) a1 a2 a3 a3 hp (fun h => absurd rfl h) hsz hg (fun h => absurd h (by decide)) (fun _ => rfl) k (by omega)]
          rfl
        · rw [if_neg hw, if_neg hw]
          rfl
      · rw [if_neg (show ¬ (3 : Int) = 1 by decide)]
        by_cases hs : digB (bl a2) 13 19 = true
        · rw [if_neg (show ¬ (!digB (bl a2) 13 19) = true by simp [hs]), if_neg (show ¬ ((3 : Int) ≠ 1 ∧ digB (bl a2) 13 19 = false) by simp [hs]), if_neg (show ¬ (3 : Int) = 0 by decide), rfill_within 3 a3 _ (by decide), if_pos (show (3 : Int) = 3 from rfl), if_neg (show ¬ (3 : Int) = 1 by decide), if_neg (show ¬ (3 : Int) = 1 by decide)]
          by_cases hw : withinB (bl a3) (bl (sgnB.extract 10 16)) (14 - (a1.size : Int)) (14 - (a1.size : Int)) = true
          · rw [if_pos hw, if_pos hw]
            obtain ⟨q1, q2⟩ := cat_len 3 a1 a3 (by decide) hp _ sgnX_sgn hw
            have hsz : a3.size = 14 - a1.size := by
              unfold withinB at hw
              simp only [Bool.and_eq_true, decide_eq_true_eq, bl_length] at hw
              omega
            have hg : ∀ c ∈ bl a3, isSgn c = true := by
              intro c hc
              unfold withinB at hw
              simp only [Bool.and_eq_true, List.all_eq_true] at hw
              exact sgnX_sgn c (by simpa using hw.1.1 c hc)
            rw [rblock_ok 3 3 rfl (by decide) a1 a2 a3 a3 hp (fun _ => hs) hsz hg (fun h => absurd h (by decide)) (fun _ => rfl) k (by omega)]
            unfold outR
            rw [if_neg (show ¬ (3 : Int) = 1 by decide)]
            obtain ⟨p1, p2⟩ := panL_ok _ hs
            rw [packL_xor _ _ (by rw [List.length_map, q1, p1]) (fun n hn => by obtain ⟨c, hc, rfl⟩ := List.mem_map.1 hn; exact (nib_lt c (q2 c hc)).1) p2]
          · rw [if_neg hw, if_neg hw]
            rfl
        · have hs' : digB (bl a2) 13 19 = false := by simpa using hs
          rw [if_pos (show (!digB (bl a2) 13 19) = true by simp [hs']), if_pos ⟨by decide, hs'⟩]
          rfl
    · rw [if_neg hp, if_neg hp]
      rfl
  · rw [if_neg (by simpa using hk0), if_neg hk0]
    rfl
end Go.Proofs.YtkjjdodnkcmeiaaDoor.PX
