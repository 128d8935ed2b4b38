/- pin.Open answers what the reference's Open answers. -/
import Derived.Test.YtkjjdodnkcmeiaaDoorPur3
import Derived.Test.YtkjjdodnkcmeiaaDoorPur4
import Derived.Test.YtkjjdodnkcmeiaaDoorPX5
namespace Go.Proofs.YtkjjdodnkcmeiaaDoor.PX
open Go.RowKit Go.Proofs.YtkjjdodnkcmeiaaDoorW.PrintWords Go.Proofs.YtkjjdodnkcmeiaaDoorW.PrintLast Go.Proofs.YtkjjdodnkcmeiaaDoorW.PrintMore

theorem unpackL_halves (l : List UInt8) : unpackL l = (halvesN l).map signAt := by
  unfold unpackL halvesN
  induction l with
  | nil => rfl
  | cons c l ih => simp [ih]
theorem byteOf_halves (c : UInt8) : byteOf (c.toNat / 16) (c.toNat % 16) = c := by
  unfold byteOf
  rw [show 16 * (c.toNat / 16) + c.toNat % 16 = c.toNat by omega, UInt8.ofNat_toNat]
theorem packL_halves (l : List UInt8) : packL (halvesN l) = l := by
  induction l with
  | nil => rfl
  | cons c l ih =>
    have : halvesN (c :: l) = c.toNat / 16 :: c.toNat % 16 :: halvesN l := rfl
    rw [this, packL, ih, byteOf_halves]
theorem halves_byteOf (a b : Nat) (ha : a < 16) (hb : b < 16) : (byteOf a b).toNat / 16 = a ∧ (byteOf a b).toNat % 16 = b := by
  unfold byteOf
  rw [UInt8.toNat_ofNat']
  omega
theorem halves_packL : ∀ l : List Nat, l.length % 2 = 0 → (∀ n ∈ l, n < 16) → halvesN (packL l) = l
  | [], _, _ => rfl
  | [_], h, _ => by simp at h
  | a :: b :: l, h, h1 => by
    have ih := halves_packL l (by simp at h; omega) (fun n hn => h1 n (by simp [hn]))
    obtain ⟨e1, e2⟩ := halves_byteOf a b (h1 a (by simp)) (h1 b (by simp))
    have : halvesN (packL (a :: b :: l)) = (byteOf a b).toNat / 16 :: (byteOf a b).toNat % 16 :: halvesN (packL l) := rfl
    rw [this, e1, e2, ih]
theorem halves_inj {a b : List UInt8} (h : halvesN a = halvesN b) : a = b := by rw [← packL_halves a, h, packL_halves]
theorem halves_xor (l : List UInt8) (p : List Nat) (hp : p.length = 2 * l.length) (h16 : ∀ n ∈ p, n < 16) : halvesN (xorB l (packL p)) = xorN (halvesN l) p := by
  have h1 := packL_xor (halvesN l) p (by rw [halvesN_length, hp]) (halvesN_lt l) h16
  rw [packL_halves] at h1
  rw [← h1]
  refine halves_packL _ ?_ ?_
  · unfold xorN
    rw [List.length_zipWith, halvesN_length, hp]
    simp
  · intro n hn
    unfold xorN at hn
    obtain ⟨i, hi, rfl⟩ := List.getElem_of_mem hn
    rw [List.getElem_zipWith]
    rw [List.length_zipWith] at hi
    exact lt16_xor (halvesN_lt l _ (List.getElem_mem (by omega))) (h16 _ (List.getElem_mem (by omega)))

/-! ### characters of sixteenths -/
theorem signAt_dig (v : Nat) (h : v < 16) : isDig (signAt v) = decide (v ≤ 9) ∧ ((bl (sgnB.extract 10 16)).contains (signAt v)) = decide (10 ≤ v) ∧ (decide (signAt v = 70)) = decide (v = 15) := by
  have hh : ∀ v : Fin 16, isDig (signAt v.1) = decide (v.1 ≤ 9) ∧ ((bl (sgnB.extract 10 16)).contains (signAt v.1)) = decide (10 ≤ v.1) ∧ (decide (signAt v.1 = 70)) = decide (v.1 = 15) := by decide +kernel
  exact hh ⟨v, h⟩
theorem signAt_val (v : Nat) (h : v ≤ 9) : signAt v = UInt8.ofNat (48 + v) := by
  have hh : ∀ v : Fin 10, signAt v.1 = UInt8.ofNat (48 + v.1) := by decide +kernel
  exact hh ⟨v, by omega⟩
/-- 'okFrom' in two halves: the PIN's sixteenths, and the filling's. -/
theorem okFrom_lt (a0 : Int) (n : Nat) : ∀ (l : List Nat) (i : Nat), i + l.length ≤ 2 + n → okFrom a0 n i l = l.all (fun v => decide (v ≤ 9))
  | [], _, _ => rfl
  | v :: l, i, h => by
    simp only [List.length_cons] at h
    simp only [okFrom, List.all_cons]
    rw [okFrom_lt a0 n l (i + 1) (by omega)]
    have : okAt a0 n i v = decide (v ≤ 9) := by unfold okAt; rw [if_pos (by omega)]
    rw [this]
theorem okFrom_ge (a0 : Int) (n : Nat) : ∀ (l : List Nat) (i : Nat), 2 + n ≤ i → okFrom a0 n i l = l.all (fun v => (decide (a0 ≠ 0) || decide (v = 15)) && (decide (a0 ≠ 3) || decide (10 ≤ v)))
  | [], _, _ => rfl
  | v :: l, i, h => by
    simp only [okFrom, List.all_cons]
    rw [okFrom_ge a0 n l (i + 1) (by omega)]
    have : okAt a0 n i v = ((decide (a0 ≠ 0) || decide (v = 15)) && (decide (a0 ≠ 3) || decide (10 ≤ v))) := by unfold okAt; rw [if_neg (by omega)]
    rw [this]
theorem okFrom_append (a0 : Int) (n : Nat) : ∀ (l m : List Nat) (i : Nat), okFrom a0 n i (l ++ m) = (okFrom a0 n i l && okFrom a0 n (i + l.length) m)
  | [], m, i => by simp [okFrom]
  | v :: l, m, i => by
    simp only [List.cons_append, okFrom, List.length_cons]
    rw [okFrom_append a0 n l m (i + 1), show i + 1 + l.length = i + (l.length + 1) by omega, Bool.and_assoc]
theorem digFrom_lt (n : Nat) : ∀ (l : List Nat) (i : Nat), i + l.length ≤ 2 + n → digFrom n i l = l.map (fun v => UInt8.ofNat (48 + v))
  | [], _, _ => rfl
  | v :: l, i, h => by
    simp only [List.length_cons] at h
    simp only [digFrom, List.map_cons]
    rw [if_pos (by omega), digFrom_lt n l (i + 1) (by omega)]
theorem digFrom_ge (n : Nat) : ∀ (l : List Nat) (i : Nat), 2 + n ≤ i → digFrom n i l = []
  | [], _, _ => rfl
  | v :: l, i, h => by
    simp only [digFrom]
    rw [if_neg (by omega), digFrom_ge n l (i + 1) (by omega)]
theorem digFrom_append (n : Nat) : ∀ (l m : List Nat) (i : Nat), digFrom n i (l ++ m) = digFrom n i l ++ digFrom n (i + l.length) m
  | [], m, i => by simp [digFrom]
  | v :: l, m, i => by
    simp only [List.cons_append, digFrom, List.length_cons]
    rw [digFrom_append n l m (i + 1), show i + 1 + l.length = i + (l.length + 1) by omega]
    split <;> rfl
/-- What Open looks at, told in two parts. -/
theorem ok_parts (a0 : Int) (n : Nat) (L : List Nat) (hL : L.length = 16) (hn : n ≤ 12) :
    okFrom a0 n 2 (L.drop 2) = (((L.drop 2).take n).all (fun v => decide (v ≤ 9)) && (L.drop (2 + n)).all (fun v => (decide (a0 ≠ 0) || decide (v = 15)) && (decide (a0 ≠ 3) || decide (10 ≤ v)))) ∧
    digFrom n 2 (L.drop 2) = ((L.drop 2).take n).map (fun v => UInt8.ofNat (48 + v)) := by
  have h : L.drop 2 = (L.drop 2).take n ++ L.drop (2 + n) := by
    rw [← List.drop_drop, List.take_append_drop]
  have hl : ((L.drop 2).take n).length = n := by rw [List.length_take, List.length_drop]; omega
  rw [h]
  constructor
  · rw [okFrom_append, okFrom_lt _ _ _ _ (by omega), okFrom_ge _ _ _ _ (by omega), ← h]
  · rw [digFrom_append, digFrom_lt _ _ _ (by omega), digFrom_ge _ _ _ (by omega), List.append_nil, ← h]
theorem dropWhile_nil (p : UInt8 → Bool) : ∀ l : List UInt8, l.dropWhile p = [] ↔ ∀ x ∈ l, p x = true
  | [] => by simp
  | a :: l => by
    rw [List.dropWhile_cons]
    by_cases h : p a = true
    · rw [if_pos h, dropWhile_nil p l]; simp [h]
    · rw [if_neg h]; simp [h]
theorem mem_tw (p : UInt8 → Bool) (x : UInt8) : ∀ l : List UInt8, x ∈ l.takeWhile p → p x = true
  | [], h => by simp at h
  | a :: l, h => by
    rw [List.takeWhile_cons] at h
    by_cases hp : p a = true
    · rw [if_pos hp] at h
      rcases List.mem_cons.1 h with rfl | h
      · exact hp
      · exact mem_tw p x l h
    · rw [if_neg hp] at h; simp at h
theorem trim_nil (l : List UInt8) (c : UInt8) : Lib.trimB l c = [] ↔ ∀ x ∈ l, x = c := by
  unfold Lib.trimB Lib.trimLeftB Lib.trimRightB
  rw [dropWhile_nil]
  simp only [List.mem_reverse, beq_iff_eq]
  constructor
  · intro h x hx
    have hm : x ∈ l.reverse.takeWhile (· == c) ∨ x ∈ l.reverse.dropWhile (· == c) := by
      have : x ∈ l.reverse := by simpa using hx
      rw [← List.takeWhile_append_dropWhile (p := (· == c)) (l := l.reverse)] at this
      exact List.mem_append.1 this
    rcases hm with hm | hm
    · have := mem_tw _ _ _ hm
      simpa using this
    · exact h x hm
  · intro h x hx
    exact h x (by
      have := List.dropWhile_sublist (· == c) (l := l.reverse)
      have := this.subset hx
      simpa using this)

/-! ### pin.Open -/
theorem pknown_eq (a : Int) : pin_known.f a = some (knownB a, a != 1) := by
  unfold pin_known.f knownB
  by_cases h0 : a = 0
  · rw [if_pos h0]; simp [h0]
  · rw [if_neg h0]
    by_cases h1 : a = 1
    · rw [if_pos h1]; simp [h1]
    · rw [if_neg h1]; by_cases h3 : a = 3 <;> simp [h0, h1, h3]
theorem all_sign (p : UInt8 → Bool) (q : Nat → Bool) (l : List Nat) (h : ∀ v ∈ l, v < 16) (hpq : ∀ v, v < 16 → p (signAt v) = q v) : (l.map signAt).all p = l.all q := by
  induction l with
  | nil => rfl
  | cons v l ih => simp only [List.map_cons, List.all_cons]; rw [ih (fun x hx => h x (by simp [hx])), hpq v (h v (by simp))]
theorem toList_eq_nil (a : ByteArray) : a.toList = ([] : List UInt8) ↔ bl a = [] := by rw [ByteArray.toList_eq]; rfl
theorem bl_ext_to (s : ByteArray) (i : Nat) : bl (s.extract i s.size) = (bl s).drop i := by
  rw [bl_extract, List.extract_eq_take_drop, List.take_of_length_le (by rw [List.length_drop, bl_length]; omega)]
theorem bl_ext_mid (s : ByteArray) (i j : Nat) : bl (s.extract i j) = ((bl s).drop i).take (j - i) := by rw [bl_extract, List.extract_eq_take_drop]
theorem popen_j2 (a0 : Int) (L : List Nat) (hL : L.length = 16) (h16 : ∀ v ∈ L, v < 16) (n : Nat) (h4 : 4 ≤ n) (h12 : n ≤ 12) (k : Nat) (hk : 60 < k) :
    pin_Open.j2 k a0 (bsOf (L.map signAt)) (n : Int) (!(((L.drop 2).take n).all (fun v => decide (v ≤ 9)))) =
      some (cond (okFrom a0 n 2 (L.drop 2)) (bsOf (digFrom n 2 (L.drop 2)), 0) (bsOf [], 60)) := by
  obtain ⟨k, rfl⟩ : ∃ m, k = m + 1 := ⟨k - 1, by omega⟩
  obtain ⟨o1, o2⟩ := ok_parts a0 n L hL h12
  rw [pin_Open.j2.eq_2, o1, o2]
  cases hd : ((L.drop 2).take n).all (fun v => decide (v ≤ 9)) with
  | false =>
    rw [if_pos (by rfl), Bool.false_and, cond_false]
    rfl
  | true =>
    rw [if_neg (show ¬ ((!true) = true) by decide), Bool.true_and]
    have e1 : wrap64 (2 + (n : Int)) = ((2 + n : Nat) : Int) := by rw [wrap_in (by omega) (by omega)]; omega
    have hsz : (bsOf (L.map signAt)).size = 16 := by rw [bsOf_size, List.length_map, hL]
    have hfill : bl ((bsOf (L.map signAt)).extract (2 + n) (bsOf (L.map signAt)).size) = (L.drop (2 + n)).map signAt := by
      rw [bl_ext_to, bl_bsOf, List.map_drop]
    have hpin : (bsOf (L.map signAt)).extract 2 (2 + n) = bsOf (((L.drop 2).take n).map (fun v => UInt8.ofNat (48 + v))) := by
      apply bl_ext
      rw [bl_ext_mid, bl_bsOf, bl_bsOf, show 2 + n - 2 = n by omega, ← List.map_drop, ← List.map_take]
      apply List.map_congr_left
      intro v hv
      have := List.all_eq_true.1 hd v hv
      exact signAt_val v (by simpa using this)
    have hfs : ((bsOf (L.map signAt)).extract (2 + n) (bsOf (L.map signAt)).size).size = 14 - n := by
      rw [← bl_length, hfill, List.length_map, List.length_drop, hL]
      omega
    have hf16 : ∀ v ∈ L.drop (2 + n), v < 16 := fun v hv => h16 v (List.mem_of_mem_drop hv)
    rw [e1, if_pos (by omega), if_pos (by rw [hsz]; omega), Int.toNat_natCast]
    have hwit : ∀ (s : ByteArray), bl s = (L.drop (2 + n)).map signAt → s.size = 14 - n → pin_within.f k s (sgnB.extract 10 16) 0 14 = some ((L.drop (2 + n)).all (fun v => decide (10 ≤ v))) := by
      intro s hs1 hs2
      rw [within_eq s _ _ _ (by omega) k (by omega)]
      unfold withinB
      rw [hs1, all_sign _ (fun v => decide (10 ≤ v)) _ hf16 (fun v hv => (signAt_dig v hv).2.1), List.length_map, List.length_drop, hL]
      rw [decide_eq_true (by omega), decide_eq_true (by omega), Bool.and_true, Bool.and_true]
    by_cases h0 : a0 = 0
    · subst h0
      rw [if_pos rfl]
      have ht : strings_Trim.f ((bsOf (L.map signAt)).extract (2 + n) (bsOf (L.map signAt)).size) (⟨#[70]⟩ : ByteArray) = some (bsOf (Lib.trimB ((L.drop (2 + n)).map signAt) 70)) := by
        unfold strings_Trim.f
        show (if (70 : UInt8).toNat < 128 ∧ _ then _ else _) = _
        rw [if_pos ⟨by decide, by omega⟩]
        have := hfill
        unfold bl at this
        rw [this]
        rfl
      rw [ht, Option.bind_some]
      have hall : (L.drop (2 + n)).all (fun v => (decide ((0 : Int) ≠ 0) || decide (v = 15)) && (decide ((0 : Int) ≠ 3) || decide (10 ≤ v))) = (L.drop (2 + n)).all (fun v => decide (v = 15)) := by
        congr 1
        funext v
        simp
      rw [hall]
      by_cases hok : (L.drop (2 + n)).all (fun v => decide (v = 15)) = true
      · have : Lib.trimB ((L.drop (2 + n)).map signAt) 70 = [] := by
          rw [trim_nil]
          intro x hx
          obtain ⟨v, hv, rfl⟩ := List.mem_map.1 hx
          have h1 := List.all_eq_true.1 hok v hv
          have h2 := (signAt_dig v (hf16 v hv)).2.2
          rw [h1] at h2
          simpa using h2
        rw [this, if_pos ((toList_eq_nil _).2 rfl), if_neg (show ¬ (0 : Int) = 3 by decide), if_pos (by omega), hpin, hok, cond_true]
      · have : Lib.trimB ((L.drop (2 + n)).map signAt) 70 ≠ [] := by
          rw [Ne, trim_nil]
          intro hall2
          apply hok
          rw [List.all_eq_true]
          intro v hv
          have h2 := (signAt_dig v (hf16 v hv)).2.2
          rw [← h2]
          simpa using hall2 _ (List.mem_map_of_mem hv)
        rw [if_neg (by rw [toList_eq_nil]; exact this), Bool.eq_false_iff.mpr hok, cond_false]
        rfl
    · rw [if_neg h0]
      by_cases h3 : a0 = 3
      · subst h3
        have hall : (L.drop (2 + n)).all (fun v => (decide ((3 : Int) ≠ 0) || decide (v = 15)) && (decide ((3 : Int) ≠ 3) || decide (10 ≤ v))) = (L.drop (2 + n)).all (fun v => decide (10 ≤ v)) := by
          congr 1
        rw [if_pos rfl, if_pos (by decide), hall]
        rw [show (⟨#[48, 49, 50, 51, 52, 53, 54, 55, 56, 57, 65, 66, 67, 68, 69, 70]⟩ : ByteArray) = sgnB from rfl, hwit _ hfill hfs, Option.bind_some]
        cases (L.drop (2 + n)).all (fun v => decide (10 ≤ v)) with
        | true => rw [if_pos rfl, if_pos (by omega), hpin, cond_true]
        | false => rw [if_neg (by decide), cond_false]; rfl
      · have hall : (L.drop (2 + n)).all (fun v => (decide (a0 ≠ 0) || decide (v = 15)) && (decide (a0 ≠ 3) || decide (10 ≤ v))) = true := by
          rw [List.all_eq_true]
          intro v _
          simp [h0, h3]
        rw [if_neg h3, if_pos (by omega), hpin, hall, cond_true]
theorem popen_j1 (a0 : Int) (x : ByteArray) (L : List Nat) (hx : x.size = 8) (hL : halvesN (bl x) = L) (k : Nat) (hk : 70 < k) : pin_Open.j1 k a0 x = some (openL a0 L) := by
  obtain ⟨k, rfl⟩ : ∃ m, k = m + 1 := ⟨k - 1, by omega⟩
  have hlen : L.length = 16 := by rw [← hL, halvesN_length, bl_length, hx]
  have h16 : ∀ v ∈ L, v < 16 := by rw [← hL]; exact halvesN_lt _
  have hun : pin_unpacked.f x = some (bsOf (L.map signAt)) := by
    unfold pin_unpacked.f
    rw [if_pos (by omega)]
    have := unpackL_halves (bl x)
    unfold bl at this hL
    rw [this, hL]
    rfl
  have hn1 : L.getD 1 0 = ((bl x).getD 0 0).toNat % 16 := by
    rw [← hL]
    have : (bl x).length = 8 := by rw [bl_length, hx]
    cases h : bl x with
    | nil => rw [h] at this; simp at this
    | cons c l => rfl
  have e0 : wrap64 (Go.bits .and .u8 (bt x 0) 15) = ((L.getD 1 0 : Nat) : Int) := by
    rw [show (0 : Int) = ((0 : Nat) : Int) from rfl, bt_nat, and15, hn1, wrap_in (by omega) (by omega)]
  rw [pin_Open.j1.eq_2, hun, Option.bind_some, if_pos (by omega), e0]
  have hnl := h16 _ (getD_mem L 1 0 (by omega))
  unfold openL
  generalize L.getD 1 0 = n at *
  have hbad : pin_Open.j2 k a0 (bsOf (L.map signAt)) (n : Int) true = some (bsOf [], 60) := by
    obtain ⟨k, rfl⟩ : ∃ m, k = m + 1 := ⟨k - 1, by omega⟩
    rw [pin_Open.j2.eq_2, if_pos rfl]
    rfl
  by_cases h4 : n < 4
  · rw [if_pos (by omega), if_pos (Or.inl h4)]
    exact hbad
  · rw [if_neg (by omega)]
    by_cases h12 : 12 < n
    · rw [if_pos (by omega), if_pos (Or.inr h12)]
      exact hbad
    · have e1 : wrap64 (2 + (n : Int)) = ((2 + n : Nat) : Int) := by rw [wrap_in (by omega) (by omega)]; omega
      rw [if_neg (show ¬ ((n : Int) > 12) by omega), if_neg (show ¬ (n < 4 ∨ 12 < n) by omega), e1, if_pos (by omega), if_pos (by rw [bsOf_size, List.length_map, hlen]; omega), Int.toNat_natCast]
      have hbl : bl ((bsOf (L.map signAt)).extract 2 (2 + n)) = ((L.drop 2).take n).map signAt := by
        rw [bl_ext_mid, bl_bsOf, show 2 + n - 2 = n by omega, ← List.map_drop, ← List.map_take]
      have hsz : ((bsOf (L.map signAt)).extract 2 (2 + n)).size = n := by
        rw [← bl_length, hbl, List.length_map, List.length_take, List.length_drop, hlen]
        omega
      have hpin : pin_isPIN.f k ((bsOf (L.map signAt)).extract 2 (2 + n)) = some (((L.drop 2).take n).all (fun v => decide (v ≤ 9))) := by
        rw [isPIN_eq _ (by omega) k (by omega)]
        unfold digB
        rw [hbl, all_sign _ (fun v => decide (v ≤ 9)) _ (fun v hv => h16 v (List.mem_of_mem_drop (List.mem_of_mem_take hv))) (fun v hv => (signAt_dig v hv).1), List.length_map, List.length_take, List.length_drop, hlen,
          show min n (16 - 2) = n by omega, decide_eq_true (by omega), decide_eq_true (by omega), Bool.and_true, Bool.and_true]
      rw [hpin, Option.bind_some]
      exact popen_j2 a0 L hlen h16 n (by omega) (by omega) k (by omega)
theorem popen_eq (a0 : Int) (blk pan : ByteArray) (s2 : pan.size ≤ 140737488355328) (k : Nat) (hk : 100 + pan.size < k) : pin_Open.f k a0 blk pan = some (openR a0 blk pan) := by
  unfold pin_Open.f openR
  rw [pknown_eq, Option.bind_some]
  obtain ⟨k, rfl⟩ : ∃ m, k = m + 1 := ⟨k - 1, by omega⟩
  have hbad : pin_Open.j0 (k + 1) a0 blk pan (a0 != 1) true = some (bsOf [], 61) := by
    rw [pin_Open.j0.eq_2, if_pos rfl]
    rfl
  by_cases hkn : knownB a0 = true
  · rw [if_pos hkn]
    by_cases h8 : blk.size = 8
    · rw [if_pos (by omega), if_pos (by omega), show (0 : Int) = ((0 : Nat) : Int) from rfl, bt_nat]
      have hc := ((bl blk).getD 0 0).toNat_lt
      have e1 : wrap64 (((((bl blk).getD 0 0).toNat : Nat) : Int) / 16) = ((((bl blk).getD 0 0).toNat / 16 : Nat) : Int) := by
        rw [wrap_in (by omega) (by omega)]
        omega
      rw [e1]
      by_cases hf : ((((bl blk).getD 0 0).toNat / 16 : Nat) : Int) = a0
      · rw [if_pos ⟨hkn, h8, hf⟩, show (((((bl blk).getD 0 0).toNat / 16 : Nat) : Int) != a0) = false by rw [bne_eq_false_iff_eq]; exact hf, pin_Open.j0.eq_2, if_neg (show ¬ (false = true) by decide)]
        by_cases h1 : a0 = 1
        · rw [if_neg (by simp [h1]), if_neg (by simp [h1]), if_pos h1]
          exact popen_j1 a0 blk _ h8 rfl k (by omega)
        · rw [if_pos (by simpa using h1), isPAN_eq pan s2 k (by omega), Option.bind_some, if_neg h1]
          by_cases hp : digB (bl pan) 13 19 = true
          · obtain ⟨p1, p2⟩ := panL_ok _ hp
            rw [if_pos hp, if_neg (by simp [hp]), summed_eq blk pan h8 hp k (by omega), Option.bind_some]
            refine popen_j1 a0 _ _ ?_ ?_ k (by omega)
            · rw [size_mk (xorB _ _)]
              unfold xorB
              rw [List.length_zipWith, bl_length, packL_length, p1, h8]
              rfl
            · rw [bl_mk (xorB _ _)]
              exact halves_xor (bl blk) (panL (bl pan)) (by rw [p1, bl_length, h8]) p2
          · have hp' : digB (bl pan) 13 19 = false := by simpa using hp
            rw [if_neg hp, if_pos ⟨h1, hp'⟩]
            rfl
      · rw [if_neg (fun h => hf h.2.2), show (((((bl blk).getD 0 0).toNat / 16 : Nat) : Int) != a0) = true by rw [bne_iff_ne]; exact hf]
        exact hbad
    · rw [if_neg (by omega), if_neg (fun h => h8 h.2.1)]
      exact hbad
  · rw [if_neg hkn, if_neg (fun h => hkn h.1)]
    exact hbad
end Go.Proofs.YtkjjdodnkcmeiaaDoor.PX
