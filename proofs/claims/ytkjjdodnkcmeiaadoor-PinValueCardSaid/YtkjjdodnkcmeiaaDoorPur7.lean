/- The law's own helpers in plain Lean: pick, which, fit, digits, number, filling. -/
import Derived.Test.YtkjjdodnkcmeiaaDoorPur6
import Derived.Test.YtkjjdodnkcmeiaaDoorPX6
import Derived.Test.YtkjjdodnkcmeiaaDoorPX13
import Derived.Test.YtkjjdodnkcmeiaaDoorPX14
import Derived.Test.YtkjjdodnkcmeiaaDoorPX15
import Derived.Test.YtkjjdodnkcmeiaaDoorPX16
namespace Go.Proofs.YtkjjdodnkcmeiaaDoor.PX
open Go.RowKit Go.Proofs.YtkjjdodnkcmeiaaDoorW.PrintWords Go.Proofs.YtkjjdodnkcmeiaaDoorW.PrintLast Go.Proofs.YtkjjdodnkcmeiaaDoorW.PrintMore

theorem pick_ok (a : Int) (n : Nat) (hn : 0 < n) (h0 : -9223372036854775808 ≤ a) (h1 : a ≤ 9223372036854775807) : ∃ r : Nat, r < n ∧ turnstilelaw6_pick.f a (n : Int) = some (r : Int) := by
  unfold turnstilelaw6_pick.f
  by_cases h : a < 0
  · rw [if_pos h, if_neg (by omega), wrap_in (x := a + 1) (by omega) (by omega), wrap_in (by omega) (by omega)]
    obtain ⟨b, hb⟩ : ∃ b : Nat, -(a + 1) = (b : Int) := ⟨(-(a + 1)).toNat, by omega⟩
    rw [hb, Int.tmod_eq_emod_of_nonneg (by omega)]
    exact ⟨b % n, Nat.mod_lt _ hn, by rw [Int.natCast_emod]⟩
  · rw [if_neg h, if_neg (by omega)]
    obtain ⟨b, rfl⟩ : ∃ b : Nat, a = (b : Int) := ⟨a.toNat, by omega⟩
    rw [Int.tmod_eq_emod_of_nonneg (by omega)]
    exact ⟨b % n, Nat.mod_lt _ hn, by rw [Int.natCast_emod]⟩
theorem which_ok (a : Int) (h0 : -9223372036854775808 ≤ a) (h1 : a ≤ 9223372036854775807) : ∃ r : Int, (r = 0 ∨ r = 1 ∨ r = 3) ∧ turnstilelaw6_which.f a = some r := by
  obtain ⟨r, hr, e⟩ := pick_ok a 3 (by decide) h0 h1
  unfold turnstilelaw6_which.f
  rw [Option.bind_some, show (3 : Int) = ((3 : Nat) : Int) from rfl, e, Option.bind_some, if_pos (by omega), if_pos (by show (r : Int) < 3; omega)]
  obtain rfl | rfl | rfl : r = 0 ∨ r = 1 ∨ r = 2 := by omega
  · exact ⟨0, Or.inl rfl, rfl⟩
  · exact ⟨1, Or.inr (Or.inl rfl), rfl⟩
  · exact ⟨3, Or.inr (Or.inr rfl), rfl⟩
theorem ba_append_size (a b : ByteArray) : (a ++ b).size = a.size + b.size := by rw [ByteArray.size_append]
theorem fit_loop (n : Nat) (hn : n ≤ 1000) : ∀ (d k : Nat) (x : ByteArray), x.size ≤ 140737488351232 → (x.size + d = n ∨ d = 0 ∧ n ≤ x.size) → d < k → ∃ r, r.size = n ∧ turnstilelaw6_fit.l0 k x (n : Int) (x.size : Int) = some r := by
  intro d
  induction d with
  | zero =>
    intro k x hx hi hk
    obtain ⟨k, rfl⟩ : ∃ m, k = m + 1 := ⟨k - 1, by omega⟩
    rw [turnstilelaw6_fit.l0.eq_2, if_neg (by omega), if_pos (by omega), if_pos (by omega)]
    refine ⟨_, ?_, rfl⟩
    rw [← bl_length, bl_extract, List.extract_eq_take_drop, List.length_take, List.length_drop, bl_length]
    omega
  | succ d ih =>
    intro k x hx hi hk
    obtain ⟨k, rfl⟩ : ∃ m, k = m + 1 := ⟨k - 1, by omega⟩
    rw [turnstilelaw6_fit.l0.eq_2, if_pos (by omega), Option.bind_some, if_pos (by rw [strOfNums_size]; simp; omega), wrap_succ (by omega)]
    have e : x.size + 1 = (x ++ strOfNums [(wrap64 (97 + (Int.tmod (x.size : Int) 26))) % 256]).size := by rw [ba_append_size, strOfNums_size]; rfl
    rw [e]
    exact ih k _ (by omega) (by omega) (by omega)
theorem fit_ok (x : ByteArray) (n : Nat) (hn : n ≤ 1000) (hx : x.size ≤ 140737488351232) (k : Nat) (hk : n < k) : ∃ r, r.size = n ∧ turnstilelaw6_fit.f k x (n : Int) = some r := by
  unfold turnstilelaw6_fit.f
  by_cases h : n ≤ x.size
  · exact fit_loop n hn 0 k x hx (Or.inr ⟨rfl, h⟩) (by omega)
  · exact fit_loop n hn (n - x.size) k x hx (by omega) (by omega)
theorem bl_strOfNums (xs : List Int) : bl (strOfNums xs) = xs.map fun n => UInt8.ofNat n.toNat := rfl
theorem digits_loop (s : ByteArray) (n : Nat) (hn : n ≤ 1000) (hs : s.size ≤ 140737488351232) : ∀ (d k i : Nat) (x : List Int), i + d = n → x.length = i → (∀ v ∈ x, 48 ≤ v ∧ v ≤ 57) → d < k →
    ∃ r, r.size = n ∧ (∀ c ∈ bl r, isDig c = true) ∧ turnstilelaw6_digits.l0 k s (n : Int) x (i : Int) = some r := by
  intro d
  induction d with
  | zero =>
    intro k i x hi hx hv hk
    obtain ⟨k, rfl⟩ : ∃ m, k = m + 1 := ⟨k - 1, by omega⟩
    rw [turnstilelaw6_digits.l0.eq_2, if_neg (by omega)]
    refine ⟨_, by rw [strOfNums_size]; omega, ?_, rfl⟩
    rw [bl_strOfNums]
    intro c hc
    obtain ⟨v, hv', rfl⟩ := List.mem_map.1 hc
    obtain ⟨v1, v2⟩ := hv v hv'
    unfold isDig
    rw [UInt8.toNat_ofNat', decide_eq_true (by omega), decide_eq_true (by omega)]
    rfl
  | succ d ih =>
    intro k i x hi hx hv hk
    obtain ⟨k, rfl⟩ : ∃ m, k = m + 1 := ⟨k - 1, by omega⟩
    have hdig : ∀ z : Int, 0 ≤ z → 48 ≤ (wrap64 (48 + Int.tmod z 10)) % 256 ∧ (wrap64 (48 + Int.tmod z 10)) % 256 ≤ 57 := by
      intro z hz
      rw [Int.tmod_eq_emod_of_nonneg hz, wrap_in (by omega) (by omega)]
      omega
    have hnew : ∀ z : Int, 0 ≤ z → ∀ v ∈ x ++ [(wrap64 (48 + Int.tmod z 10)) % 256], 48 ≤ v ∧ v ≤ 57 := by
      intro z hz v hv'
      rcases List.mem_append.1 hv' with h | h
      · exact hv v h
      · rw [List.mem_singleton] at h
        rw [h]
        exact hdig z hz
    rw [turnstilelaw6_digits.l0.eq_2, if_pos (by omega)]
    by_cases h : i < s.size
    · rw [if_pos (by omega), if_pos (by omega), if_pos (by omega), wrap_succ (by omega)]
      refine ih k (i + 1) _ (by omega) (by simp; omega) (hnew _ ?_) (by omega)
      rw [bt_nat]
      have := ((bl s).getD i 0).toNat_lt
      rw [wrap_in (x := ((((bl s).getD i 0).toNat : Nat) : Int)) (by omega) (by omega), wrap_in (by omega) (by omega)]
      omega
    · rw [if_neg (by omega), if_pos (by omega), wrap_succ (by omega)]
      refine ih k (i + 1) _ (by omega) (by simp; omega) (hnew _ ?_) (by omega)
      rw [wrap_in (x := 7 * (i : Int)) (by omega) (by omega), wrap_in (by omega) (by omega)]
      omega
theorem digits_ok (s : ByteArray) (n : Nat) (hn : n ≤ 1000) (hs : s.size ≤ 140737488351232) (k : Nat) (hk : n < k) : ∃ r, r.size = n ∧ (∀ c ∈ bl r, isDig c = true) ∧ turnstilelaw6_digits.f k s (n : Int) = some r := by
  unfold turnstilelaw6_digits.f
  exact digits_loop s n hn hs n k 0 [] (by omega) rfl (fun v hv => by simp at hv) hk
theorem digits_digB {r : ByteArray} {n : Nat} (hn : r.size = n) (hd : ∀ c ∈ bl r, isDig c = true) (lo hi : Nat) (h1 : lo ≤ n) (h2 : n ≤ hi) : digB (bl r) lo hi = true := by
  unfold digB
  rw [bl_length, hn, decide_eq_true h1, decide_eq_true h2, Bool.and_true, Bool.and_true, List.all_eq_true]
  exact hd
theorem lnumber_loop (s : ByteArray) (hs : s.size ≤ 1000) (hd : ∀ c ∈ bl s, isDig c = true) : ∀ (d k i : Nat), i + d = s.size → d < k → turnstilelaw6_number.l0 k s (i : Int) = some true := by
  intro d
  induction d with
  | zero =>
    intro k i hi hk
    obtain ⟨k, rfl⟩ : ∃ m, k = m + 1 := ⟨k - 1, by omega⟩
    rw [turnstilelaw6_number.l0.eq_2, if_neg (by omega)]
  | succ d ih =>
    intro k i hi hk
    obtain ⟨k, rfl⟩ : ∃ m, k = m + 1 := ⟨k - 1, by omega⟩
    have h := hd _ (getD_mem (bl s) i 0 (by rw [bl_length]; omega))
    unfold isDig at h
    rw [Bool.and_eq_true, decide_eq_true_eq, decide_eq_true_eq] at h
    rw [turnstilelaw6_number.l0.eq_2, if_pos (by omega), if_pos (by omega), bt_nat, if_neg (by omega), if_neg (by omega), wrap_succ (by omega)]
    exact ih k (i + 1) (by omega) (by omega)
theorem lnumber_ok (s : ByteArray) (hs : s.size ≤ 1000) (hd : ∀ c ∈ bl s, isDig c = true) (k : Nat) (hk : s.size < k) : turnstilelaw6_number.f k s = some true := by
  unfold turnstilelaw6_number.f
  exact lnumber_loop s hs hd s.size k 0 (by omega) hk
/-- One character of a filling, as a number. -/
def FillV (a0 v : Int) : Prop := ∃ c : UInt8, v = (c.toNat : Int) ∧ isSgn c = true ∧ (a0 = 3 → (bl (sgnB.extract 10 16)).contains c = true)
theorem fillV_of (a0 : Int) (j : Nat) (hj : j < 16) (h3 : a0 = 3 → 10 ≤ j) : FillV a0 (bt sgnB (j : Int)) := by
  have hh : ∀ j : Fin 16, isSgn ((bl sgnB).getD j.1 0) = true ∧ (10 ≤ j.1 → (bl (sgnB.extract 10 16)).contains ((bl sgnB).getD j.1 0) = true) := by decide +kernel
  rw [bt_nat]
  exact ⟨_, rfl, (hh ⟨j, hj⟩).1, fun h => (hh ⟨j, hj⟩).2 (h3 h)⟩
theorem fillV_ok (a0 : Int) (n : Nat) (x : List Int) (h0 : a0 ≠ 0) (hx : x.length = 14 - n) (hv : ∀ v ∈ x, FillV a0 v) : FillOk a0 n (strOfNums x) := by
  refine ⟨fun h => absurd h h0, fun _ => ⟨by rw [strOfNums_size, hx], ?_, ?_⟩⟩
  · rw [bl_strOfNums]
    intro c hc
    obtain ⟨v, hv', rfl⟩ := List.mem_map.1 hc
    obtain ⟨c, rfl, h1, _⟩ := hv v hv'
    rw [Int.toNat_natCast, UInt8.ofNat_toNat]
    exact h1
  · rw [bl_strOfNums]
    intro h3 c hc
    obtain ⟨v, hv', rfl⟩ := List.mem_map.1 hc
    obtain ⟨c, rfl, _, h1⟩ := hv v hv'
    rw [Int.toNat_natCast, UInt8.ofNat_toNat]
    exact h1 h3
theorem filling_loop (a0 : Int) (s : ByteArray) (n : Nat) (hn : n ≤ 12) (_hs : s.size ≤ 140737488351232) (h0 : a0 ≠ 0) : ∀ (d k i : Nat) (x : List Int), i + d = 14 - n → x.length = i → (∀ v ∈ x, FillV a0 v) → d < k →
    ∃ r, FillOk a0 n r ∧ turnstilelaw6_filling.l0 k a0 s (n : Int) x (i : Int) = some r := by
  intro d
  induction d with
  | zero =>
    intro k i x hi hx hv hk
    obtain ⟨k, rfl⟩ : ∃ m, k = m + 1 := ⟨k - 1, by omega⟩
    rw [turnstilelaw6_filling.l0.eq_2, wrap_in (x := 14 - (n : Int)) (by omega) (by omega), if_neg (by omega)]
    exact ⟨_, fillV_ok a0 n x h0 (by omega) hv, rfl⟩
  | succ d ih =>
    intro k i x hi hx hv hk
    obtain ⟨k, rfl⟩ : ∃ m, k = m + 1 := ⟨k - 1, by omega⟩
    rw [turnstilelaw6_filling.l0.eq_2, wrap_in (x := 14 - (n : Int)) (by omega) (by omega), if_pos (by omega), wrap_succ (by omega)]
    have hgo : ∀ j : Nat, j < 16 → (a0 = 3 → 10 ≤ j) → ∃ r, FillOk a0 n r ∧ turnstilelaw6_filling.l0 k a0 s (n : Int) (x ++ [bt (⟨#[48, 49, 50, 51, 52, 53, 54, 55, 56, 57, 65, 66, 67, 68, 69, 70]⟩ : ByteArray) (j : Int)]) ((i + 1 : Nat) : Int) = some r := by
      intro j hj h3
      refine ih k (i + 1) _ (by omega) (by simp; omega) ?_ (by omega)
      intro v hv'
      rcases List.mem_append.1 hv' with h | h
      · exact hv v h
      · rw [List.mem_singleton] at h
        rw [h]
        exact fillV_of a0 j hj h3
    have hval : ∀ z : Nat, z ≤ 140737488355328 → ∃ r, FillOk a0 n r ∧ (if a0 = 3 then (if 0 ≤ (wrap64 (10 + (Int.tmod (wrap64 (z : Int)) 6))) then (if (wrap64 (10 + (Int.tmod (wrap64 (z : Int)) 6))) < 16 then (if x.length < 140737488355328 then (turnstilelaw6_filling.l0 k a0 s (n : Int) (x ++ [bt (⟨#[48, 49, 50, 51, 52, 53, 54, 55, 56, 57, 65, 66, 67, 68, 69, 70]⟩ : ByteArray) (wrap64 (10 + (Int.tmod (wrap64 (z : Int)) 6)))]) ((i + 1 : Nat) : Int)) else (none)) else (none)) else (none)) else (if 0 ≤ (Int.tmod (wrap64 (z : Int)) 16) then (if (Int.tmod (wrap64 (z : Int)) 16) < 16 then (if x.length < 140737488355328 then (turnstilelaw6_filling.l0 k a0 s (n : Int) (x ++ [bt (⟨#[48, 49, 50, 51, 52, 53, 54, 55, 56, 57, 65, 66, 67, 68, 69, 70]⟩ : ByteArray) (Int.tmod (wrap64 (z : Int)) 16)]) ((i + 1 : Nat) : Int)) else (none)) else (none)) else (none))) = some r := by
      intro z hz
      rw [wrap_in (x := (z : Int)) (by omega) (by omega), Int.tmod_eq_emod_of_nonneg (by omega), Int.tmod_eq_emod_of_nonneg (by omega)]
      by_cases h3 : a0 = 3
      · have e : wrap64 (10 + ((z : Int) % 6)) = ((10 + z % 6 : Nat) : Int) := by rw [wrap_in (by omega) (by omega)]; omega
        rw [if_pos h3, e, if_pos (by omega), if_pos (by omega), if_pos (by omega)]
        exact hgo _ (by omega) (fun _ => by omega)
      · have e : ((z : Int) % 16) = ((z % 16 : Nat) : Int) := by omega
        rw [if_neg h3, e, if_pos (by omega), if_pos (by omega), if_pos (by omega)]
        exact hgo _ (by omega) (fun h => absurd h h3)
    by_cases h : i < s.size
    · rw [if_pos (by omega), if_pos (by omega), bt_nat]
      have := ((bl s).getD i 0).toNat_lt
      exact hval _ (by omega)
    · rw [if_neg (by omega), show 5 * (i : Int) = ((5 * i : Nat) : Int) by omega]
      exact hval _ (by omega)
theorem filling_ok (a0 : Int) (s : ByteArray) (n : Nat) (hn : n ≤ 12) (hs : s.size ≤ 140737488351232) (k : Nat) (hk : 14 < k) : ∃ r, FillOk a0 n r ∧ turnstilelaw6_filling.f k a0 s (n : Int) = some r := by
  unfold turnstilelaw6_filling.f
  by_cases h : a0 = 0
  · rw [if_pos h]
    exact ⟨_, ⟨fun _ => rfl, fun h' => absurd h h'⟩, rfl⟩
  · rw [if_neg h]
    exact filling_loop a0 s n hn hs h (14 - n) k 0 [] (by omega) rfl (fun v hv => by simp at hv) (by omega)
theorem pblock_eq (a0 : Int) (a1 a2 a3 : ByteArray) (s1 : a1.size ≤ 140737488355328) (s2 : a2.size ≤ 140737488355328) (s3 : a3.size ≤ 140737488355328) :
    pin_Block.f a0 a1 a2 a3 = some (blockR a0 a1 a2 a3) := by
  unfold pin_Block.f
  rw [if_pos ⟨s1, s2, s3⟩]
theorem known_block0 : blockR 0 ⟨#[49, 50, 51, 52]⟩ ⟨#[52, 51, 50, 49, 57, 56, 55, 54, 53, 52, 51, 50, 49, 48, 57, 56, 55]⟩ ⟨#[]⟩ = (⟨#[4, 18, 172, 137, 171, 205, 239, 103]⟩, 0) := by decide +kernel
theorem known_block1 : blockR 1 ⟨#[49, 50, 51, 52]⟩ ⟨#[]⟩ ⟨#[48, 49, 50, 51, 52, 53, 54, 55, 56, 57]⟩ = (⟨#[20, 18, 52, 1, 35, 69, 103, 137]⟩, 0) := by decide +kernel
theorem known_open0 : openR 0 ⟨#[4, 18, 172, 137, 171, 205, 239, 103]⟩ ⟨#[52, 51, 50, 49, 57, 56, 55, 54, 53, 52, 51, 50, 49, 48, 57, 56, 55]⟩ = (⟨#[49, 50, 51, 52]⟩, 0) := by decide +kernel
theorem lawknown_eq (k : Nat) (hk : 200 < k) : turnstilelaw6_known.f k = some true := by
  unfold turnstilelaw6_known.f
  rw [pblock_eq _ _ _ _ (by decide) (by decide) (by decide), known_block0, Option.bind_some, popen_eq _ _ _ (by decide) k (by show 100 + 17 < k; omega), known_open0, Option.bind_some,
    pblock_eq _ _ _ _ (by decide) (by decide) (by decide), known_block1, Option.bind_some]
  decide +kernel
end Go.Proofs.YtkjjdodnkcmeiaaDoor.PX
