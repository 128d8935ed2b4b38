/- The reference's Open, as a plain function of the sixteen sixteenths. -/
import Derived.Test.YtkjjdodnkcmeiaaDoorPur2
import Derived.Test.YtkjjdodnkcmeiaaDoorPX11
namespace Go.Proofs.YtkjjdodnkcmeiaaDoor.PX
open Go.RowKit Go.Proofs.YtkjjdodnkcmeiaaDoorW.PrintWords Go.Proofs.YtkjjdodnkcmeiaaDoorW.PrintLast Go.Proofs.YtkjjdodnkcmeiaaDoorW.PrintMore
def bsOf (l : List UInt8) : ByteArray := ⟨l.toArray⟩
theorem bl_bsOf (l : List UInt8) : bl (bsOf l) = l := rfl
theorem bsOf_append (a b : List UInt8) : bsOf a ++ bsOf b = bsOf (a ++ b) := by
  apply bl_ext
  simp [bl, bsOf, ByteArray.data_append]
theorem bsOf_size (l : List UInt8) : (bsOf l).size = l.length := size_mk l
/-- The halves of bytes. -/
def halvesN (l : List UInt8) : List Nat := l.flatMap fun c => [c.toNat / 16, c.toNat % 16]
theorem halvesN_lt (l : List UInt8) : ∀ n ∈ halvesN l, n < 16 := by
  intro n hn
  unfold halvesN at hn
  obtain ⟨c, _, hc⟩ := List.mem_flatMap.1 hn
  have := c.toNat_lt
  simp at hc
  omega
theorem halvesN_length (l : List UInt8) : (halvesN l).length = 2 * l.length := by
  induction l with
  | nil => rfl
  | cons c l ih => simp [halvesN] at ih ⊢; omega
theorem rhalves_loop (s : ByteArray) (hs : s.size ≤ 1000) : ∀ (d k i : Nat) (x3 : List Int), i + d = s.size → d < k → x3.length = 2 * i →
    turnstileref6_halves.l0 k s x3 (i : Int) = some (x3 ++ natI (halvesN ((bl s).drop i))) := by
  intro d
  induction d with
  | zero =>
    intro k i x3 hi hk hx
    obtain ⟨k, rfl⟩ : ∃ m, k = m + 1 := ⟨k - 1, by omega⟩
    rw [turnstileref6_halves.l0.eq_2, if_neg (by omega), List.drop_of_length_le (by rw [bl_length]; omega)]
    simp [halvesN, natI]
  | succ d ih =>
    intro k i x3 hi hk hx
    obtain ⟨k, rfl⟩ : ∃ m, k = m + 1 := ⟨k - 1, by omega⟩
    rw [turnstileref6_halves.l0.eq_2, if_pos (by omega), if_pos (by omega), bt_nat, drop_getD (bl s) i 0 (by rw [bl_length]; omega), wrap_succ (by omega)]
    generalize (bl s).getD i 0 = c
    have hc := c.toNat_lt
    have e1 : wrap64 (Int.tdiv (wrap64 ((c.toNat : Nat) : Int)) 16) = ((c.toNat / 16 : Nat) : Int) := by
      rw [wrap_in (x := ((c.toNat : Nat) : Int)) (by omega) (by omega), Int.tdiv_eq_ediv_of_nonneg (by omega), wrap_in (by omega) (by omega)]
      omega
    have e2 : Int.tmod (wrap64 ((c.toNat : Nat) : Int)) 16 = ((c.toNat % 16 : Nat) : Int) := by
      rw [wrap_in (by omega) (by omega), Int.tmod_eq_emod_of_nonneg (by omega)]
      omega
    rw [e1, e2, Option.bind_some, if_pos (by simp; omega), ih k (i + 1) _ (by omega) (by omega) (by simp; omega)]
    simp [halvesN, natI]
theorem rhalves_eq (s : ByteArray) (hs : s.size ≤ 1000) (k : Nat) (hk : s.size < k) : turnstileref6_halves.f k s = some (natI (halvesN (bl s))) := by
  unfold turnstileref6_halves.f
  have := rhalves_loop s hs s.size k 0 [] (by omega) hk rfl
  simpa using this

/-- May the sixteenth v stand at place i of a block of a PIN of n digits? -/
def okAt (a0 : Int) (n i v : Nat) : Bool := if i < 2 + n then decide (v ≤ 9) else (decide (a0 ≠ 0) || decide (v = 15)) && (decide (a0 ≠ 3) || decide (10 ≤ v))
def okFrom (a0 : Int) (n : Nat) : Nat → List Nat → Bool
  | _, [] => true
  | i, v :: l => okAt a0 n i v && okFrom a0 n (i + 1) l
def digFrom (n : Nat) : Nat → List Nat → List UInt8
  | _, [] => []
  | i, v :: l => if i < 2 + n then UInt8.ofNat (48 + v) :: digFrom n (i + 1) l else digFrom n (i + 1) l
def openL (a0 : Int) (L : List Nat) : ByteArray × Int :=
  if L.getD 1 0 < 4 ∨ 12 < L.getD 1 0 then (bsOf [], 60)
  else cond (okFrom a0 (L.getD 1 0) 2 (L.drop 2)) (bsOf (digFrom (L.getD 1 0) 2 (L.drop 2)), 0) (bsOf [], 60)
theorem strOfNums_one (v : Nat) (hv : v ≤ 9) : strOfNums [(wrap64 (48 + ((v : Nat) : Int))) % 256] = bsOf [UInt8.ofNat (48 + v)] := by
  have h : ∀ v : Fin 10, (wrap64 (48 + ((v.1 : Nat) : Int)) % 256).toNat = 48 + v.1 := by decide +kernel
  have := h ⟨v, by omega⟩
  unfold strOfNums bsOf
  simp only [List.map_cons, List.map_nil]
  simp only at this
  rw [this]
theorem ropen_j5_no (k : Nat) (a0 : Int) (L : List Int) (n : Int) (x : ByteArray) (i : Int) : turnstileref6_Open.j5 (k + 1) a0 L n x i true = some (bsOf [], 60) := by
  rw [turnstileref6_Open.j5.eq_2, if_pos rfl]
  rfl
theorem ropen_loop (a0 : Int) (L : List Nat) (hL : L.length = 16) (h16 : ∀ v ∈ L, v < 16) (n : Nat) (hn : n ≤ 12) : ∀ (d k i : Nat) (acc : List UInt8), i + d = 16 → 2 ≤ i → 3 * d + 5 < k → acc.length ≤ i →
    turnstileref6_Open.l0 k a0 (natI L) (n : Int) (bsOf acc) (i : Int) = some (cond (okFrom a0 n i (L.drop i)) (bsOf (acc ++ digFrom n i (L.drop i)), 0) (bsOf [], 60)) := by
  intro d
  induction d with
  | zero =>
    intro k i acc hi h2 hk ha
    obtain ⟨k, rfl⟩ : ∃ m, k = m + 1 := ⟨k - 1, by omega⟩
    rw [turnstileref6_Open.l0.eq_2, if_neg (by omega), List.drop_of_length_le (by omega)]
    simp [okFrom, digFrom]
  | succ d ih =>
    intro k i acc hi h2 hk ha
    obtain ⟨k, rfl⟩ : ∃ m, k = m + 1 + 1 + 1 := ⟨k - 3, by omega⟩
    have hv := h16 _ (getD_mem L i 0 (by omega))
    have e1 : wrap64 (2 + (n : Int)) = ((2 + n : Nat) : Int) := by rw [wrap_in (by omega) (by omega)]; omega
    have hin : 0 ≤ (i : Int) ∧ (i : Int) < ((natI L).length : Int) := ⟨by omega, by rw [natI_length]; omega⟩
    rw [drop_getD L i 0 (by omega)]
    simp only [okFrom, digFrom]
    rw [turnstileref6_Open.l0.eq_2, if_pos (by omega), e1, turnstileref6_Open.j4.eq_2, turnstileref6_Open.j4.eq_2, e1, rd_natI]
    generalize hvd : L.getD i 0 = v at *
    by_cases hlt : i < 2 + n
    · rw [if_pos (show (i : Int) < ((2 + n : Nat) : Int) by omega), if_pos hin.1, if_pos hin.2, if_pos hlt]
      by_cases h9 : v ≤ 9
      · rw [if_neg (show ¬ decide (((v : Nat) : Int) > 9) = true by simp; omega), if_neg (show ¬ (i : Int) ≥ ((2 + n : Nat) : Int) by omega), turnstileref6_Open.j5.eq_2, if_neg (show ¬ (false = true) by decide), e1,
          if_pos (show (i : Int) < ((2 + n : Nat) : Int) by omega), if_pos hin.1, if_pos hin.2, rd_natI, hvd, Option.bind_some, strOfNums_one v h9, bsOf_append, if_pos (by rw [bsOf_size, bsOf_size]; simp; omega), wrap_succ (by omega)]
        rw [ih k (i + 1) _ (by omega) (by omega) (by omega) (by simp; omega)]
        have : okAt a0 n i v = true := by simp [okAt, hlt, h9]
        rw [this, Bool.true_and, List.append_assoc]
        rfl
      · rw [if_pos (show decide (((v : Nat) : Int) > 9) = true by simp; omega), show decide (((v : Nat) : Int) > 9) = true by simp; omega, ropen_j5_no]
        have : okAt a0 n i v = false := by simp [okAt, hlt]; omega
        rw [this, Bool.false_and, cond_false]
    · rw [if_neg (show ¬ (i : Int) < ((2 + n : Nat) : Int) by omega), if_neg (show ¬ (false = true) by decide), if_pos (show (i : Int) ≥ ((2 + n : Nat) : Int) by omega), if_neg hlt]
      have hgo : okAt a0 n i v = true → turnstileref6_Open.j5 (k + 1) a0 (natI L) (n : Int) (bsOf acc) (i : Int) false = some (cond (okAt a0 n i v && okFrom a0 n (i + 1) (L.drop (i + 1))) (bsOf (acc ++ digFrom n (i + 1) (L.drop (i + 1))), 0) (bsOf [], 60)) := by
        intro hok
        rw [turnstileref6_Open.j5.eq_2, if_neg (show ¬ (false = true) by decide), e1, if_neg (show ¬ (i : Int) < ((2 + n : Nat) : Int) by omega), wrap_succ (by omega), ih k (i + 1) _ (by omega) (by omega) (by omega) (by omega), hok, Bool.true_and]
      have hno : okAt a0 n i v = false → (some (bsOf [], 60) : Option (ByteArray × Int)) = some (cond (okAt a0 n i v && okFrom a0 n (i + 1) (L.drop (i + 1))) (bsOf (acc ++ digFrom n (i + 1) (L.drop (i + 1))), 0) (bsOf [], 60)) := by
        intro hok
        rw [hok, Bool.false_and, cond_false]
      by_cases h0 : a0 = 0
      · rw [if_pos h0, if_pos hin.1, if_pos hin.2]
        by_cases h15 : v = 15
        · rw [if_pos (by omega), if_neg (by omega)]
          exact hgo (by simp [okAt, hlt, h15])
        · rw [if_neg (by omega), show (((v : Nat) : Int) != 15) = true by simp; omega, ropen_j5_no]
          exact hno (by simp [okAt, hlt, h0, h15])
      · rw [if_neg h0]
        by_cases h3 : a0 = 3
        · rw [if_pos h3, if_pos hin.1, if_pos hin.2]
          by_cases h10 : v < 10
          · rw [show decide (((v : Nat) : Int) < 10) = true by simp; omega, ropen_j5_no]
            exact hno (by simp [okAt, hlt, h3]; omega)
          · rw [show decide (((v : Nat) : Int) < 10) = false by simp; omega]
            exact hgo (by simp [okAt, hlt, h3]; omega)
        · rw [if_neg h3]
          exact hgo (by simp [okAt, hlt, h0, h3])
def openR (a0 : Int) (blk pan : ByteArray) : ByteArray × Int :=
  if knownB a0 = true ∧ blk.size = 8 ∧ ((((bl blk).getD 0 0).toNat / 16 : Nat) : Int) = a0 then
    (if a0 ≠ 1 ∧ digB (bl pan) 13 19 = false then (bsOf [], 50) else openL a0 (if a0 = 1 then halvesN (bl blk) else xorN (halvesN (bl blk)) (panL (bl pan))))
  else (bsOf [], 61)
theorem lt16_xor {a b : Nat} (ha : a < 16) (hb : b < 16) : a ^^^ b < 16 := by
  have h4 : ∀ (a c : Fin 16), a.1 ^^^ c.1 < 16 := by decide
  exact h4 ⟨a, ha⟩ ⟨b, hb⟩
theorem mix_ok (a0 : Int) (l : List Nat) (pan : List UInt8) (hl : l.length = 16) (h1 : ∀ n ∈ l, n < 16) (hs : a0 ≠ 1 → digB pan 13 19 = true) :
    (if a0 = 1 then l else xorN l (panL pan)).length = 16 ∧ ∀ n ∈ (if a0 = 1 then l else xorN l (panL pan)), n < 16 := by
  by_cases h : a0 = 1
  · rw [if_pos h]; exact ⟨hl, h1⟩
  · rw [if_neg h]
    obtain ⟨p1, p2⟩ := panL_ok _ (hs h)
    unfold xorN
    refine ⟨by rw [List.length_zipWith, hl, p1]; rfl, fun n hn => ?_⟩
    obtain ⟨i, hi, rfl⟩ := List.getElem_of_mem hn
    rw [List.getElem_zipWith]
    rw [List.length_zipWith] at hi
    exact lt16_xor (h1 _ (List.getElem_mem (by omega))) (p2 _ (List.getElem_mem (by omega)))
theorem ropen_j1 (a0 : Int) (blk pan : ByteArray) (h8 : blk.size = 8) (hs : a0 ≠ 1 → digB (bl pan) 13 19 = true) (k : Nat) (hk : 90 < k) :
    turnstileref6_Open.j1 k a0 blk pan false = some (openL a0 (if a0 = 1 then halvesN (bl blk) else xorN (halvesN (bl blk)) (panL (bl pan)))) := by
  obtain ⟨k, rfl⟩ : ∃ m, k = m + 1 + 1 := ⟨k - 2, by omega⟩
  have hl : (halvesN (bl blk)).length = 16 := by rw [halvesN_length, bl_length, h8]
  obtain ⟨m1, m2⟩ := mix_ok a0 _ _ hl (halvesN_lt _) hs
  rw [turnstileref6_Open.j1.eq_2, if_neg (show ¬ (false = true) by decide), rhalves_eq blk (by omega) _ (by omega), Option.bind_some, rmixed_eq a0 _ pan hl (halvesN_lt _) hs _ (by omega), Option.bind_some]
  generalize (if a0 = 1 then halvesN (bl blk) else xorN (halvesN (bl blk)) (panL (bl pan))) = L at *
  rw [if_pos (by rw [natI_length]; omega), show (1 : Int) = ((1 : Nat) : Int) from rfl, rd_natI]
  unfold openL
  have hn := m2 _ (getD_mem L 1 0 (by omega))
  generalize hnd : L.getD 1 0 = n at *
  by_cases h4 : n < 4
  · rw [if_pos (by omega), if_pos (by omega), turnstileref6_Open.j2.eq_2, if_pos rfl]
    rfl
  · rw [if_neg (by omega)]
    by_cases h12 : 12 < n
    · rw [if_pos (Or.inr h12), show decide (((n : Nat) : Int) > 12) = true by simp; omega, turnstileref6_Open.j2.eq_2, if_pos rfl]
      rfl
    · rw [if_neg (by omega), show decide (((n : Nat) : Int) > 12) = false by simp; omega, turnstileref6_Open.j2.eq_2, if_neg (show ¬ (false = true) by decide)]
      have := ropen_loop a0 L m1 m2 n (by omega) 14 k 2 [] (by omega) (by omega) (by omega) (by simp)
      exact this
theorem ropen_eq (a0 : Int) (blk pan : ByteArray) (s2 : pan.size ≤ 140737488355328) (k : Nat) (hk : 100 + pan.size < k) : turnstileref6_Open.f k a0 blk pan = some (openR a0 blk pan) := by
  unfold turnstileref6_Open.f openR
  rw [rknown_eq, Option.bind_some]
  obtain ⟨k, rfl⟩ : ∃ m, k = m + 1 := ⟨k - 1, by omega⟩
  by_cases hkn : knownB a0 = true
  · rw [if_pos hkn]
    by_cases h8 : blk.size = 8
    · rw [if_pos (by omega), if_pos (by omega), show (0 : Int) = ((0 : Nat) : Int) from rfl, bt_nat]
      have hc := ((bl blk).getD 0 0).toNat_lt
      generalize (bl blk).getD 0 0 = c at *
      have e1 : wrap64 (Int.tdiv (wrap64 ((c.toNat : Nat) : Int)) 16) = ((c.toNat / 16 : Nat) : Int) := by
        rw [wrap_in (x := ((c.toNat : Nat) : Int)) (by omega) (by omega), Int.tdiv_eq_ediv_of_nonneg (by omega), wrap_in (by omega) (by omega)]
        omega
      rw [e1, turnstileref6_Open.j0.eq_2]
      by_cases hf : ((c.toNat / 16 : Nat) : Int) = a0
      · rw [if_neg (by simp [hf]), if_pos ⟨hkn, h8, hf⟩, risPAN_eq pan s2 k (by omega), Option.bind_some]
        by_cases h1 : a0 = 1
        · rw [if_pos h1, if_neg (by simp [h1])]
          exact ropen_j1 a0 blk pan h8 (fun h => absurd h1 h) k (by omega)
        · rw [if_neg h1]
          by_cases hp : digB (bl pan) 13 19 = true
          · rw [if_neg (by simp [hp]), hp]
            exact ropen_j1 a0 blk pan h8 (fun _ => hp) k (by omega)
          · have hp' : digB (bl pan) 13 19 = false := by simpa using hp
            rw [if_pos ⟨h1, hp'⟩, hp']
            obtain ⟨k, rfl⟩ : ∃ m, k = m + 1 := ⟨k - 1, by omega⟩
            rw [turnstileref6_Open.j1.eq_2, if_pos (by decide)]
            rfl
      · rw [if_pos (by rw [bne_iff_ne]; exact hf), if_neg (fun h => hf h.2.2)]
        rfl
    · rw [if_neg (by omega), if_neg (fun h => h8 h.2.1), turnstileref6_Open.j0.eq_2, if_pos rfl]
      rfl
  · rw [if_neg hkn, if_neg (fun h => hkn h.1), turnstileref6_Open.j0.eq_2, if_pos rfl]
    rfl
end Go.Proofs.YtkjjdodnkcmeiaaDoor.PX
