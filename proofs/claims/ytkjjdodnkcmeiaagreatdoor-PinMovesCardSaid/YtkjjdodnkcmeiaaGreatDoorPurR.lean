/- Plain laws of the printed turnstileref6.Block and Open: the reference answers what the program does. -/
import Derived.Test.YtkjjdodnkcmeiaaGreatDoorPurR0
import Derived.Test.YtkjjdodnkcmeiaaGreatDoorPX10
import Derived.Test.YtkjjdodnkcmeiaaGreatDoorPX11
import Derived.Test.YtkjjdodnkcmeiaaGreatDoorPX24
namespace Go.Proofs.YtkjjdodnkcmeiaaGreatDoor.PX
open Go.RowKit Go.Proofs.YtkjjdodnkcmeiaaGreatDoorW.PrintWords Go.Proofs.YtkjjdodnkcmeiaaGreatDoorW.PrintLast Go.Proofs.YtkjjdodnkcmeiaaGreatDoorW.PrintMore
theorem rbeside_loop (s : ByteArray) (hs : s.size ≤ 1000) (hd : ∀ c ∈ bl s, isDig c = true) (h13 : 13 ≤ s.size) : ∀ (d k i : Nat) (x3 : List Int), i + d = s.size - 1 → d < k → x3.length + d ≤ 100 →
    turnstileref6_beside.l0 k s x3 (i : Int) = some (x3 ++ natI (((bl s).drop i).take d |>.map nib)) := by
  intro d
  induction d with
  | zero =>
    intro k i x3 hi hk hx
    obtain ⟨k, rfl⟩ : ∃ m, k = m + 1 := ⟨k - 1, by omega⟩
    have e : wrap64 ((s.size : Int) - 1) = ((s.size - 1 : Nat) : Int) := by rw [wrap_in (by omega) (by omega)]; omega
    rw [turnstileref6_beside.l0.eq_2, e, if_neg (by omega)]
    simp [natI]
  | succ d ih =>
    intro k i x3 hi hk hx
    obtain ⟨k, rfl⟩ : ∃ m, k = m + 1 := ⟨k - 1, by omega⟩
    have e : wrap64 ((s.size : Int) - 1) = ((s.size - 1 : Nat) : Int) := by rw [wrap_in (by omega) (by omega)]; omega
    have hc := hd _ (getD_mem (bl s) i 0 (by rw [bl_length]; omega))
    rw [turnstileref6_beside.l0.eq_2, e, if_pos (by omega), if_pos (by omega), if_pos (by omega), if_pos (by omega), bt_nat, dig_val _ hc, wrap_succ (by omega)]
    rw [ih k (i + 1) _ (by omega) (by omega) (by simp; omega), drop_getD (bl s) i 0 (by rw [bl_length]; omega), List.take_succ_cons]
    simp [natI]
theorem rbeside_eq (s : ByteArray) (h : digB (bl s) 13 19 = true) (k : Nat) (hk : 12 < k) : turnstileref6_beside.f k s = some (natI (panL (bl s))) := by
  obtain ⟨l1, l2, l3⟩ := digB_len h
  rw [bl_length] at l1 l2
  unfold turnstileref6_beside.f
  have e : wrap64 ((s.size : Int) - 13) = ((s.size - 13 : Nat) : Int) := by rw [wrap_in (by omega) (by omega)]; omega
  rw [e, rbeside_loop s (by omega) l3 l1 12 k (s.size - 13) _ (by omega) hk (by simp)]
  unfold panL
  rw [bl_length]
  simp [natI]
theorem rmixed_loop (l p : List Nat) (hl : l.length ≤ 1000) (hp : l.length ≤ p.length) (h1 : ∀ n ∈ l, n < 16) (h2 : ∀ n ∈ p, n < 16) : ∀ (d k i : Nat) (x8 : List Int), i + d = l.length → d < k → x8.length + d ≤ 1000 →
    turnstileref6_mixed.l0 k (natI l) (natI p) x8 (i : Int) = some (x8 ++ natI (xorN (l.drop i) (p.drop i))) := by
  intro d
  induction d with
  | zero =>
    intro k i x8 hi hk hx
    obtain ⟨k, rfl⟩ : ∃ m, k = m + 1 := ⟨k - 1, by omega⟩
    rw [turnstileref6_mixed.l0.eq_2, if_neg (by rw [natI_length]; omega), List.drop_of_length_le (by omega)]
    simp [natI, xorN]
  | succ d ih =>
    intro k i x8 hi hk hx
    obtain ⟨k, rfl⟩ : ∃ m, k = m + 1 := ⟨k - 1, by omega⟩
    rw [turnstileref6_mixed.l0.eq_2, if_pos (by rw [natI_length]; omega), if_pos (by omega), if_pos (by rw [natI_length]; omega), if_pos (by omega), rd_natI, rd_natI,
      xor_small _ _ (h1 _ (getD_mem l i 0 (by omega))) (h2 _ (getD_mem p i 0 (by omega))), wrap_succ (by omega)]
    rw [ih k (i + 1) _ (by omega) (by omega) (by simp; omega), drop_getD l i 0 (by omega), drop_getD p i 0 (by omega)]
    simp [natI, xorN]
theorem rmixed_eq (a0 : Int) (l : List Nat) (s : ByteArray) (hl : l.length = 16) (h1 : ∀ n ∈ l, n < 16) (hs : a0 ≠ 1 → digB (bl s) 13 19 = true) (k : Nat) (hk : 16 < k) :
    turnstileref6_mixed.f k a0 (natI l) s = some (natI (if a0 = 1 then l else xorN l (panL (bl s)))) := by
  unfold turnstileref6_mixed.f
  by_cases h : a0 = 1
  · rw [if_pos h, if_pos h]
  · obtain ⟨p1, p2⟩ := panL_ok _ (hs h)
    rw [if_neg h, if_neg h, rbeside_eq s (hs h) k (by omega), Option.bind_some]
    have := rmixed_loop l (panL (bl s)) (by omega) (by omega) h1 p2 16 k 0 [] (by omega) hk (by simp)
    simpa using this
theorem rblock_l1 (a0 : Int) (a1 a2 a3 : ByteArray) (F : List Nat) (hF : F.length = 16) (h16 : ∀ n ∈ F, n < 16) (hs : a0 ≠ 1 → digB (bl a2) 13 19 = true) (hn : a1.size ≤ 12)
    (hfill : ∀ m, 2 + a1.size ≤ m → m < 16 → (a0 = 0 → F.getD m 0 = 15) ∧ (a0 ≠ 0 → m - 2 - a1.size < a3.size ∧ Lib.indexByte (bl sgnB) ((bl a3).getD (m - 2 - a1.size) 0) = ((F.getD m 0 : Nat) : Int))) :
    ∀ (d k m : Nat), m + d = 16 → 2 + a1.size ≤ m → d + 40 < k → turnstileref6_Block.l1 k a0 a1 a2 a3 (natI (F.take m)) = some (outR a0 F a2) := by
  intro d
  induction d with
  | zero =>
    intro k m hm h2 hk
    obtain ⟨k, rfl⟩ : ∃ m, k = m + 1 := ⟨k - 1, by omega⟩
    have hx : ∀ n ∈ (if a0 = 1 then F else xorN F (panL (bl a2))), n < 16 := by
      by_cases h : a0 = 1
      · rw [if_pos h]; exact h16
      · rw [if_neg h]
        obtain ⟨p1, p2⟩ := panL_ok _ (hs h)
        intro n hn
        unfold xorN at hn
        obtain ⟨i, hi, rfl⟩ := List.getElem_of_mem hn
        rw [List.getElem_zipWith]
        have h4 : ∀ (a c : Fin 16), a.1 ^^^ c.1 < 16 := by decide
        rw [List.length_zipWith] at hi
        exact h4 ⟨_, h16 _ (List.getElem_mem (by omega))⟩ ⟨_, p2 _ (List.getElem_mem (by omega))⟩
    have hl : (if a0 = 1 then F else xorN F (panL (bl a2))).length = 16 := by
      by_cases h : a0 = 1
      · rw [if_pos h]; exact hF
      · rw [if_neg h]
        obtain ⟨p1, p2⟩ := panL_ok _ (hs h)
        unfold xorN
        rw [List.length_zipWith, hF, p1]
        rfl
    rw [turnstileref6_Block.l1.eq_2, natI_length, List.take_of_length_le (by omega), if_neg (by omega), rmixed_eq a0 F a2 hF h16 hs k (by omega), Option.bind_some,
      rbytes_eq _ (by omega) hx (by omega) k (by omega)]
    rfl
  | succ d ih =>
    intro k m hm h2 hk
    obtain ⟨k, rfl⟩ : ∃ m, k = m + 1 := ⟨k - 1, by omega⟩
    have hlen : (F.take m).length = m := by rw [List.length_take]; omega
    have hstep : natI (F.take m) ++ [((F.getD m 0 : Nat) : Int)] = natI (F.take (m + 1)) := by
      rw [List.take_succ_eq_append_getElem (by omega : m < F.length), List.getD_eq_getElem?_getD, List.getElem?_eq_getElem (by omega)]
      simp only [natI, List.map_append, List.map_cons, List.map_nil, Option.getD_some]
    obtain ⟨f0, f1⟩ := hfill m h2 (by omega)
    rw [turnstileref6_Block.l1.eq_2, natI_length, hlen, if_pos (by omega)]
    by_cases h : a0 = 0
    · rw [if_pos h, if_pos (by omega)]
      have e := f0 h
      rw [e] at hstep
      rw [show (15 : Int) = ((15 : Nat) : Int) from rfl, hstep]
      exact ih k (m + 1) (by omega) (by omega) (by omega)
    · obtain ⟨g1, g2⟩ := f1 h
      have e : wrap64 (wrap64 ((m : Int) - 2) - (a1.size : Int)) = ((m - 2 - a1.size : Nat) : Int) := by
        rw [wrap_in (x := (m : Int) - 2) (by omega) (by omega), wrap_in (by omega) (by omega)]; omega
      rw [if_neg h, e, if_pos (by omega), if_pos (by omega), bt_nat, sixteenth_eq _ k (by omega), Option.bind_some, if_pos (by omega), g2, hstep]
      exact ih k (m + 1) (by omega) (by omega) (by omega)
theorem rblock_l0 (a0 : Int) (a1 a2 a3 : ByteArray) (F : List Nat) (r : ByteArray × Int) (hp : digB (bl a1) 4 12 = true) (f : Nat) (R : List Nat) (hFl : F = f :: a1.size :: ((bl a1).map nib ++ R))
    (h : ∀ k, 60 < k → turnstileref6_Block.l1 k a0 a1 a2 a3 (natI (F.take (2 + a1.size))) = some r) :
    ∀ (d k i : Nat), i + d = a1.size → d + 61 < k → turnstileref6_Block.l0 k a0 a1 a2 a3 (natI (F.take (2 + i))) (i : Int) = some r := by
  obtain ⟨l1, l2, l3⟩ := digB_len hp
  rw [bl_length] at l1 l2
  intro d
  induction d with
  | zero =>
    intro k i hi hk
    obtain ⟨k, rfl⟩ : ∃ m, k = m + 1 := ⟨k - 1, by omega⟩
    rw [turnstileref6_Block.l0.eq_2, if_neg (by omega), show i = a1.size by omega]
    exact h k (by omega)
  | succ d ih =>
    intro k i hi hk
    obtain ⟨k, rfl⟩ : ∃ m, k = m + 1 := ⟨k - 1, by omega⟩
    have hc := l3 _ (getD_mem (bl a1) i 0 (by rw [bl_length]; omega))
    have hstep : natI (F.take (2 + i)) ++ [((nib ((bl a1).getD i 0) : Nat) : Int)] = natI (F.take (2 + (i + 1))) := by
      rw [hFl, show 2 + (i + 1) = i + 1 + 1 + 1 by omega, show 2 + i = i + 1 + 1 by omega]
      simp only [List.take_succ_cons]
      have h1 : i < ((bl a1).map nib ++ R).length := by simp [bl_length]; omega
      rw [List.take_succ_eq_append_getElem h1, List.getElem_append_left (by simp [bl_length]; omega), List.getElem_map, List.getD_eq_getElem?_getD, List.getElem?_eq_getElem (by rw [bl_length]; omega)]
      simp [natI]
    have hlen : (natI (F.take (2 + i))).length ≤ 100 := by rw [natI_length, List.length_take]; omega
    rw [turnstileref6_Block.l0.eq_2, if_pos (by omega), if_pos (by omega), if_pos (by omega), bt_nat, dig_val _ hc, hstep, wrap_succ (by omega)]
    exact ih k (i + 1) (by omega) (by omega)

theorem rblock_ok (a0 : Int) (f : Nat) (hf : a0 = (f : Int)) (hf3 : f < 16) (a1 a2 a3 fill : ByteArray) (hp : digB (bl a1) 4 12 = true) (hs : a0 ≠ 1 → digB (bl a2) 13 19 = true) (hl : fill.size = 14 - a1.size) (hg : ∀ c ∈ bl fill, isSgn c = true)
    (h0 : a0 = 0 → fill = effs (14 - a1.size)) (h1 : a0 ≠ 0 → fill = a3) (k : Nat) (hk : 100 < k) :
    turnstileref6_Block.l0 k a0 a1 a2 a3 ([a0, (a1.size : Int)] : List Int) 0 = some (outR a0 ((blkS f a1 fill).map nib) a2) := by
  obtain ⟨l1, l2, l3⟩ := digB_len hp
  rw [bl_length] at l1 l2
  have hF := blkS_nibs f a1 fill hf3 (by omega)
  obtain ⟨k1, k2⟩ := blkS_ok f a1 fill hf3 hp hl hg
  have h16 : ∀ n ∈ (blkS f a1 fill).map nib, n < 16 := by
    intro n hn
    obtain ⟨c, hc, rfl⟩ := List.mem_map.1 hn
    exact (nib_lt c (k2 c hc)).1
  have hfill : ∀ m, 2 + a1.size ≤ m → m < 16 → ((blkS f a1 fill).map nib).getD m 0 = nib ((bl fill).getD (m - 2 - a1.size) 0) ∧ m - 2 - a1.size < fill.size := by
    intro m hm1 hm2
    rw [hF]
    obtain ⟨j, rfl⟩ : ∃ j, m = a1.size + j + 1 + 1 := ⟨m - a1.size - 2, by omega⟩
    have hj : j < (bl fill).length := by rw [bl_length]; omega
    simp only [List.getD_cons_succ]
    rw [List.getD_eq_getElem?_getD, List.getElem?_append_right (by simp [bl_length]), List.length_map, bl_length, show a1.size + j - a1.size = j by omega, List.getElem?_map, List.getElem?_eq_getElem hj,
      show a1.size + j + 1 + 1 - 2 - a1.size = j by omega, List.getD_eq_getElem?_getD, List.getElem?_eq_getElem hj]
    exact ⟨rfl, by rw [bl_length] at hj; exact hj⟩
  have L1 := rblock_l1 a0 a1 a2 a3 ((blkS f a1 fill).map nib) (by rw [List.length_map, k1]) h16 hs l2 (fun m hm1 hm2 => by
    obtain ⟨g1, g2⟩ := hfill m hm1 hm2
    refine ⟨fun h => ?_, fun h => ?_⟩
    · rw [g1]
      have hc : (bl fill).getD (m - 2 - a1.size) 0 ∈ bl fill := getD_mem _ _ _ (by rw [bl_length]; exact g2)
      have he : (bl fill).getD (m - 2 - a1.size) 0 = 70 := by
        rw [h0 h] at hc ⊢
        unfold effs at hc ⊢
        rw [bl_mk (List.replicate _ 70)] at hc ⊢
        exact (List.mem_replicate.1 hc).2
      rw [he]
      decide
    · rw [← h1 h, g1]
      refine ⟨g2, ?_⟩
      exact (nib_lt _ (hg _ (getD_mem _ _ _ (by rw [bl_length]; exact g2)))).2) (14 - a1.size)
  have L0 := rblock_l0 a0 a1 a2 a3 ((blkS f a1 fill).map nib) _ hp f _ hF (fun k hk => L1 k (2 + a1.size) (by omega) (by omega) (by omega)) a1.size k 0 (by omega) (by omega)
  rw [hF] at L0 ⊢
  simp only [Nat.add_zero, List.take_succ_cons, List.take_zero, natI, List.map_cons, List.map_nil] at L0
  rw [hf]
  rw [hf] at L0
  exact L0
theorem rblock_eq (a0 : Int) (a1 a2 a3 : ByteArray) (s1 : a1.size ≤ 140737488355328) (s2 : a2.size ≤ 140737488355328) (s3 : a3.size ≤ 140737488355328) (k : Nat) (hk : 102 + a1.size + a2.size + a3.size < k) :
    turnstileref6_Block.f k a0 a1 a2 a3 = some (blockR a0 a1 a2 a3) := by
  have ew : ∀ (h : digB (bl a1) 4 12 = true), wrap64 (14 - (a1.size : Int)) = 14 - (a1.size : Int) := fun h => wrap_in (by omega) (by omega)
  unfold turnstileref6_Block.f
  rw [rknown_eq, Option.bind_some, risPIN_eq a1 s1 k (by omega), Option.bind_some, risPAN_eq a2 s2 k (by omega), Option.bind_some, rfilled_eq a0 a3 _ s3 k (by omega), Option.bind_some]
  unfold blockR knownB
  by_cases hk0 : a0 = 0 ∨ a0 = 1 ∨ a0 = 3
  · rw [if_pos (by simpa using hk0), if_pos hk0]
    by_cases hp : digB (bl a1) 4 12 = true
    · rw [if_pos hp, if_pos hp, ew hp]
      obtain ⟨l1, l2, l3⟩ := digB_len hp
      rw [bl_length] at l1 l2
      obtain ⟨k, rfl⟩ : ∃ m, k = m + 1 := ⟨k - 1, by omega⟩
      rw [turnstileref6_Block.j0.eq_2, turnstileref6_Block.j0.eq_2]
      rcases hk0 with rfl | rfl | rfl
      · rw [if_neg (show ¬ (0 : Int) = 1 by decide)]
        by_cases hs : digB (bl a2) 13 19 = true
        · rw [if_neg (show ¬ (!digB (bl a2) 13 19) = true by simp [hs]), if_neg (show ¬ ((0 : Int) ≠ 1 ∧ digB (bl a2) 13 19 = false) by simp [hs]), if_pos (show (0 : Int) = 0 from rfl)]
          unfold filledB
          rw [if_pos (show (0 : Int) = 0 from rfl)]
          by_cases h3 : a3.size = 0
          · rw [if_pos (by simpa using h3), if_pos h3]
            rw [rblock_ok 0 0 rfl (by decide) a1 a2 a3 (effs (14 - a1.size)) hp (fun _ => hs) (effs_size _) (effs_sgn _) (fun _ => rfl) (fun h => absurd rfl h) k (by omega)]
            unfold outR
            rw [if_neg (show ¬ (0 : Int) = 1 by decide)]
            obtain ⟨p1, p2⟩ := panL_ok _ hs
            obtain ⟨q1, q2⟩ := blkS_ok 0 a1 (effs (14 - a1.size)) (by decide) hp (effs_size _) (effs_sgn _)
            rw [packL_xor _ _ (by rw [List.length_map, q1, p1]) (fun n hn => by obtain ⟨c, hc, rfl⟩ := List.mem_map.1 hn; exact (nib_lt c (q2 c hc)).1) p2]
          · rw [if_neg (by simpa using h3), if_neg h3]
            rfl
        · have hs' : digB (bl a2) 13 19 = false := by simpa using hs
          rw [if_pos (show (!digB (bl a2) 13 19) = true by simp [hs']), if_pos ⟨by decide, hs'⟩]
          rfl
      · rw [if_pos (show (1 : Int) = 1 from rfl), if_neg (show ¬ (false = true) by decide), if_neg (show ¬ ((1 : Int) ≠ 1 ∧ digB (bl a2) 13 19 = false) by simp), if_neg (show ¬ (1 : Int) = 0 by decide), rfill_within 1 a3 _ (by decide), if_neg (show ¬ (1 : Int) = 3 by decide), if_pos (show (1 : Int) = 1 from rfl)]
        by_cases hw : withinB (bl a3) (bl sgnB) (14 - (a1.size : Int)) (14 - (a1.size : Int)) = true
        · rw [if_pos hw, if_pos hw, if_pos rfl]
          obtain ⟨q1, q2⟩ := cat_len 1 a1 a3 (by decide) hp sgnB sgnB_sgn hw
          have hsz : a3.size = 14 - a1.size := by
            unfold withinB at hw
            simp only [Bool.and_eq_true, decide_eq_true_eq, bl_length] at hw
            omega
          have hg : ∀ c ∈ bl a3, isSgn c = true := by
            intro c hc
            unfold withinB at hw
            simp only [Bool.and_eq_true, List.all_eq_true] at hw
            exact hw.1.1 c hc
          rw [rblock_ok 1 1 rfl (by decide) a1 a2 a3 a3 hp (fun h => absurd rfl h) hsz hg (fun h => absurd h (by decide)) (fun _ => rfl) k (by omega)]
          rfl
        · rw [if_neg hw, if_neg hw]
          rfl
      · rw [if_neg (show ¬ (3 : Int) = 1 by decide)]
        by_cases hs : digB (bl a2) 13 19 = true
        · rw [if_neg (show ¬ (!digB (bl a2) 13 19) = true by simp [hs]), if_neg (show ¬ ((3 : Int) ≠ 1 ∧ digB (bl a2) 13 19 = false) by simp [hs]), if_neg (show ¬ (3 : Int) = 0 by decide), rfill_within 3 a3 _ (by decide), if_pos (show (3 : Int) = 3 from rfl), if_neg (show ¬ (3 : Int) = 1 by decide), if_neg (show ¬ (3 : Int) = 1 by decide)]
          by_cases hw : withinB (bl a3) (bl (sgnB.extract 10 16)) (14 - (a1.size : Int)) (14 - (a1.size : Int)) = true
          · rw [if_pos hw, if_pos hw]
            obtain ⟨q1, q2⟩ := cat_len 3 a1 a3 (by decide) hp _ sgnX_sgn hw
            have hsz : a3.size = 14 - a1.size := by
              unfold withinB at hw
              simp only [Bool.and_eq_true, decide_eq_true_eq, bl_length] at hw
              omega
            have hg : ∀ c ∈ bl a3, isSgn c = true := by
              intro c hc
              unfold withinB at hw
              simp only [Bool.and_eq_true, List.all_eq_true] at hw
              exact sgnX_sgn c (by simpa using hw.1.1 c hc)
            rw [rblock_ok 3 3 rfl (by decide) a1 a2 a3 a3 hp (fun _ => hs) hsz hg (fun h => absurd h (by decide)) (fun _ => rfl) k (by omega)]
            unfold outR
            rw [if_neg (show ¬ (3 : Int) = 1 by decide)]
            obtain ⟨p1, p2⟩ := panL_ok _ hs
            rw [packL_xor _ _ (by rw [List.length_map, q1, p1]) (fun n hn => by obtain ⟨c, hc, rfl⟩ := List.mem_map.1 hn; exact (nib_lt c (q2 c hc)).1) p2]
          · rw [if_neg hw, if_neg hw]
            rfl
        · have hs' : digB (bl a2) 13 19 = false := by simpa using hs
          rw [if_pos (show (!digB (bl a2) 13 19) = true by simp [hs']), if_pos ⟨by decide, hs'⟩]
          rfl
    · rw [if_neg hp, if_neg hp]
      rfl
  · rw [if_neg (by simpa using hk0), if_neg hk0]
    rfl
theorem ropen_j5_no (k : Nat) (a0 : Int) (L : List Int) (n : Int) (x : ByteArray) (i : Int) : turnstileref6_Open.j5 (k + 1) a0 L n x i true = some (bsOf [], 60) := by
  rw [turnstileref6_Open.j5.eq_2, if_pos rfl]
  rfl
theorem ropen_loop (a0 : Int) (L : List Nat) (hL : L.length = 16) (h16 : ∀ v ∈ L, v < 16) (n : Nat) (hn : n ≤ 12) : ∀ (d k i : Nat) (acc : List UInt8), i + d = 16 → 2 ≤ i → 3 * d + 5 < k → acc.length ≤ i →
    turnstileref6_Open.l0 k a0 (natI L) (n : Int) (bsOf acc) (i : Int) = some (cond (okFrom a0 n i (L.drop i)) (bsOf (acc ++ digFrom n i (L.drop i)), 0) (bsOf [], 60)) := by
  intro d
  induction d with
  | zero =>
    intro k i acc hi h2 hk ha
    obtain ⟨k, rfl⟩ : ∃ m, k = m + 1 := ⟨k - 1, by omega⟩
    rw [turnstileref6_Open.l0.eq_2, if_neg (by omega), List.drop_of_length_le (by omega)]
    simp [okFrom, digFrom]
  | succ d ih =>
    intro k i acc hi h2 hk ha
    obtain ⟨k, rfl⟩ : ∃ m, k = m + 1 + 1 + 1 := ⟨k - 3, by omega⟩
    have hv := h16 _ (getD_mem L i 0 (by omega))
    have e1 : wrap64 (2 + (n : Int)) = ((2 + n : Nat) : Int) := by rw [wrap_in (by omega) (by omega)]; omega
    have hin : 0 ≤ (i : Int) ∧ (i : Int) < ((natI L).length : Int) := ⟨by omega, by rw [natI_length]; omega⟩
    rw [drop_getD L i 0 (by omega)]
    simp only [okFrom, digFrom]
    rw [turnstileref6_Open.l0.eq_2, if_pos (by omega), e1, turnstileref6_Open.j4.eq_2, turnstileref6_Open.j4.eq_2, e1, rd_natI]
    generalize hvd : L.getD i 0 = v at *
    by_cases hlt : i < 2 + n
    · rw [if_pos (show (i : Int) < ((2 + n : Nat) : Int) by omega), if_pos hin.1, if_pos hin.2, if_pos hlt]
      by_cases h9 : v ≤ 9
      · rw [if_neg (show ¬ decide (((v : Nat) : Int) > 9) = true by simp; omega), if_neg (show ¬ (i : Int) ≥ ((2 + n : Nat) : Int) by omega), turnstileref6_Open.j5.eq_2, if_neg (show ¬ (false = true) by decide), e1,
          if_pos (show (i : Int) < ((2 + n : Nat) : Int) by omega), if_pos hin.1, if_pos hin.2, rd_natI, hvd, Option.bind_some, strOfNums_one v h9, bsOf_append, if_pos (by rw [bsOf_size, bsOf_size]; simp; omega), wrap_succ (by omega)]
        rw [ih k (i + 1) _ (by omega) (by omega) (by omega) (by simp; omega)]
        have : okAt a0 n i v = true := by simp [okAt, hlt, h9]
        rw [this, Bool.true_and, List.append_assoc]
        rfl
      · rw [if_pos (show decide (((v : Nat) : Int) > 9) = true by simp; omega), show decide (((v : Nat) : Int) > 9) = true by simp; omega, ropen_j5_no]
        have : okAt a0 n i v = false := by simp [okAt, hlt]; omega
        rw [this, Bool.false_and, cond_false]
    · rw [if_neg (show ¬ (i : Int) < ((2 + n : Nat) : Int) by omega), if_neg (show ¬ (false = true) by decide), if_pos (show (i : Int) ≥ ((2 + n : Nat) : Int) by omega), if_neg hlt]
      have hgo : okAt a0 n i v = true → turnstileref6_Open.j5 (k + 1) a0 (natI L) (n : Int) (bsOf acc) (i : Int) false = some (cond (okAt a0 n i v && okFrom a0 n (i + 1) (L.drop (i + 1))) (bsOf (acc ++ digFrom n (i + 1) (L.drop (i + 1))), 0) (bsOf [], 60)) := by
        intro hok
        rw [turnstileref6_Open.j5.eq_2, if_neg (show ¬ (false = true) by decide), e1, if_neg (show ¬ (i : Int) < ((2 + n : Nat) : Int) by omega), wrap_succ (by omega), ih k (i + 1) _ (by omega) (by omega) (by omega) (by omega), hok, Bool.true_and]
      have hno : okAt a0 n i v = false → (some (bsOf [], 60) : Option (ByteArray × Int)) = some (cond (okAt a0 n i v && okFrom a0 n (i + 1) (L.drop (i + 1))) (bsOf (acc ++ digFrom n (i + 1) (L.drop (i + 1))), 0) (bsOf [], 60)) := by
        intro hok
        rw [hok, Bool.false_and, cond_false]
      by_cases h0 : a0 = 0
      · rw [if_pos h0, if_pos hin.1, if_pos hin.2]
        by_cases h15 : v = 15
        · rw [if_pos (by omega), if_neg (by omega)]
          exact hgo (by simp [okAt, hlt, h15])
        · rw [if_neg (by omega), show (((v : Nat) : Int) != 15) = true by simp; omega, ropen_j5_no]
          exact hno (by simp [okAt, hlt, h0, h15])
      · rw [if_neg h0]
        by_cases h3 : a0 = 3
        · rw [if_pos h3, if_pos hin.1, if_pos hin.2]
          by_cases h10 : v < 10
          · rw [show decide (((v : Nat) : Int) < 10) = true by simp; omega, ropen_j5_no]
            exact hno (by simp [okAt, hlt, h3]; omega)
          · rw [show decide (((v : Nat) : Int) < 10) = false by simp; omega]
            exact hgo (by simp [okAt, hlt, h3]; omega)
        · rw [if_neg h3]
          exact hgo (by simp [okAt, hlt, h0, h3])
theorem ropen_j1 (a0 : Int) (blk pan : ByteArray) (h8 : blk.size = 8) (hs : a0 ≠ 1 → digB (bl pan) 13 19 = true) (k : Nat) (hk : 90 < k) :
    turnstileref6_Open.j1 k a0 blk pan false = some (openL a0 (if a0 = 1 then halvesN (bl blk) else xorN (halvesN (bl blk)) (panL (bl pan)))) := by
  obtain ⟨k, rfl⟩ : ∃ m, k = m + 1 + 1 := ⟨k - 2, by omega⟩
  have hl : (halvesN (bl blk)).length = 16 := by rw [halvesN_length, bl_length, h8]
  obtain ⟨m1, m2⟩ := mix_ok a0 _ _ hl (halvesN_lt _) hs
  rw [turnstileref6_Open.j1.eq_2, if_neg (show ¬ (false = true) by decide), rhalves_eq blk (by omega) _ (by omega), Option.bind_some, rmixed_eq a0 _ pan hl (halvesN_lt _) hs _ (by omega), Option.bind_some]
  generalize (if a0 = 1 then halvesN (bl blk) else xorN (halvesN (bl blk)) (panL (bl pan))) = L at *
  rw [if_pos (by rw [natI_length]; omega), show (1 : Int) = ((1 : Nat) : Int) from rfl, rd_natI]
  unfold openL
  have hn := m2 _ (getD_mem L 1 0 (by omega))
  generalize hnd : L.getD 1 0 = n at *
  by_cases h4 : n < 4
  · rw [if_pos (by omega), if_pos (by omega), turnstileref6_Open.j2.eq_2, if_pos rfl]
    rfl
  · rw [if_neg (by omega)]
    by_cases h12 : 12 < n
    · rw [if_pos (Or.inr h12), show decide (((n : Nat) : Int) > 12) = true by simp; omega, turnstileref6_Open.j2.eq_2, if_pos rfl]
      rfl
    · rw [if_neg (by omega), show decide (((n : Nat) : Int) > 12) = false by simp; omega, turnstileref6_Open.j2.eq_2, if_neg (show ¬ (false = true) by decide)]
      have := ropen_loop a0 L m1 m2 n (by omega) 14 k 2 [] (by omega) (by omega) (by omega) (by simp)
      exact this
theorem ropen_eq (a0 : Int) (blk pan : ByteArray) (s2 : pan.size ≤ 140737488355328) (k : Nat) (hk : 100 + pan.size < k) : turnstileref6_Open.f k a0 blk pan = some (openR a0 blk pan) := by
  unfold turnstileref6_Open.f openR
  rw [rknown_eq, Option.bind_some]
  obtain ⟨k, rfl⟩ : ∃ m, k = m + 1 := ⟨k - 1, by omega⟩
  by_cases hkn : knownB a0 = true
  · rw [if_pos hkn]
    by_cases h8 : blk.size = 8
    · rw [if_pos (by omega), if_pos (by omega), show (0 : Int) = ((0 : Nat) : Int) from rfl, bt_nat]
      have hc := ((bl blk).getD 0 0).toNat_lt
      generalize (bl blk).getD 0 0 = c at *
      have e1 : wrap64 (Int.tdiv (wrap64 ((c.toNat : Nat) : Int)) 16) = ((c.toNat / 16 : Nat) : Int) := by
        rw [wrap_in (x := ((c.toNat : Nat) : Int)) (by omega) (by omega), Int.tdiv_eq_ediv_of_nonneg (by omega), wrap_in (by omega) (by omega)]
        omega
      rw [e1, turnstileref6_Open.j0.eq_2]
      by_cases hf : ((c.toNat / 16 : Nat) : Int) = a0
      · rw [if_neg (by simp [hf]), if_pos ⟨hkn, h8, hf⟩, risPAN_eq pan s2 k (by omega), Option.bind_some]
        by_cases h1 : a0 = 1
        · rw [if_pos h1, if_neg (by simp [h1])]
          exact ropen_j1 a0 blk pan h8 (fun h => absurd h1 h) k (by omega)
        · rw [if_neg h1]
          by_cases hp : digB (bl pan) 13 19 = true
          · rw [if_neg (by simp [hp]), hp]
            exact ropen_j1 a0 blk pan h8 (fun _ => hp) k (by omega)
          · have hp' : digB (bl pan) 13 19 = false := by simpa using hp
            rw [if_pos ⟨h1, hp'⟩, hp']
            obtain ⟨k, rfl⟩ : ∃ m, k = m + 1 := ⟨k - 1, by omega⟩
            rw [turnstileref6_Open.j1.eq_2, if_pos (by decide)]
            rfl
      · rw [if_pos (by rw [bne_iff_ne]; exact hf), if_neg (fun h => hf h.2.2)]
        rfl
    · rw [if_neg (by omega), if_neg (fun h => h8 h.2.1), turnstileref6_Open.j0.eq_2, if_pos rfl]
      rfl
  · rw [if_neg hkn, if_neg (fun h => hkn h.1), turnstileref6_Open.j0.eq_2, if_pos rfl]
    rfl
end Go.Proofs.YtkjjdodnkcmeiaaGreatDoor.PX
