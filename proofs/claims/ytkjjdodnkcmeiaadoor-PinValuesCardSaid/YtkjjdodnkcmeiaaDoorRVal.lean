/- The walk of turnstileref6.Value, the reference's answer: what the program's Value answers. -/
import Derived.Test.YtkjjdodnkcmeiaaDoorPurT
import Derived.Test.YtkjjdodnkcmeiaaDoorPurR0
import Derived.Test.YtkjjdodnkcmeiaaDoorVal
namespace Go.Proofs.YtkjjdodnkcmeiaaDoor.PX
open Go.RowKit Go.Proofs.YtkjjdodnkcmeiaaDoorW.PrintWords Go.Proofs.YtkjjdodnkcmeiaaDoorW.PrintLast Go.Proofs.YtkjjdodnkcmeiaaDoorW.PrintMore

def valueR (key pan index pin : ByteArray) : ByteArray × Int :=
  if key.size = 16 then (if digB (bl pan) 13 19 = true then (if digB (bl pin) 4 12 = true then (if withinB (bl index) (bl (sgnB.extract 1 7)) 1 1 = true then (valR key pan index pin, 0) else (mkB [], 1)) else (mkB [], 60)) else (mkB [], 50)) else (mkB [], 30)
/-! ### the errors -/
theorem r37 (s : ByteArray) (hs : s.size ≤ 140737488355328) (b : Bool) (h : digB (bl s) 13 19 = b) (w : World) : Calls Tryd.prog 37 #[.string s] w fun e w' => ∃ n, e = .returned (.bool b) ∧ w' = w.drewN n := by
  refine (turnstileref6_isPAN.calls (s.size + 1) s b w (by rw [risPAN_eq s hs _ (by omega), h])).mono ?_
  rintro e w' ⟨rfl, n, rfl⟩
  exact ⟨n, rfl, rfl⟩
theorem r36 (s : ByteArray) (hs : s.size ≤ 140737488355328) (b : Bool) (h : digB (bl s) 4 12 = b) (w : World) : Calls Tryd.prog 36 #[.string s] w fun e w' => ∃ n, e = .returned (.bool b) ∧ w' = w.drewN n := by
  refine (turnstileref6_isPIN.calls (s.size + 1) s b w (by rw [risPIN_eq s hs _ (by omega), h])).mono ?_
  rintro e w' ⟨rfl, n, rfl⟩
  exact ⟨n, rfl, rfl⟩
set_option maxRecDepth 100000 in
set_option maxHeartbeats 1000000 in
theorem c21_err (key pan index pin : ByteArray) (bp bq : Bool) (s1 : pan.size ≤ 140737488355328) (s3 : pin.size ≤ 140737488355328) (hp : digB (bl pan) 13 19 = bp) (hq : digB (bl pin) 4 12 = bq) (r : Int)
    (h : ¬ key.size = 16 ∧ r = 30 ∨ key.size = 16 ∧ bp = false ∧ r = 50 ∨ key.size = 16 ∧ bp = true ∧ bq = false ∧ r = 60) (w : World) :
    Calls Tryd.prog 21 #[.string key, .string pan, .string index, .string pin] w fun e w' => e = .returned (.tuple #[.string (mkB []), .int .i64 r]) ∧ Below w.heap.size w w' := by
  have C37 := Lib.hid (r37 pan s1 bp hp)
  have C36 := Lib.hid (r36 pin s3 bq hq)
  clear hp hq s1 s3
  rcases h with ⟨hk, rfl⟩ | ⟨hk, rfl, rfl⟩ | ⟨hk, rfl, rfl, rfl⟩
  all_goals
    first | (have k1 : ((key.size : Int) != 16) = true := bne_iff_ne.mpr (by omega)) | (have k1 : ((key.size : Int) != 16) = false := bne_eq_false_iff_eq.mpr (by omega))
    clear hk
    go_enter Tryd.func21, Tryd.ntmps21
    go_wp2_with (first
      | (go_at_call 37; (with_reducible refine (C37.out _).mono ?_); rintro e w' ⟨n37, rfl, rfl⟩)
      | (go_at_call 36; (with_reducible refine (C36.out _).mono ?_); rintro e w' ⟨n36, rfl, rfl⟩))
    go_ret2
    exact ⟨rfl, below_drewN2 _ _ _⟩
/-! ### the plain side -/
def lowH (l : List Nat) : List UInt8 := (l.filter fun h => decide (h < 10)).map fun h => UInt8.ofNat (48 + h)
def highH (l : List Nat) : List UInt8 := (l.filter fun h => !decide (h < 10)).map fun h => UInt8.ofNat (38 + h)
theorem lowH_eq (l : List Nat) (hl : ∀ n ∈ l, n < 16) : lowL (l.map signAt) = lowH l := by
  have hn : ∀ n : Fin 16, decide ((signAt n.1).toNat ≤ 57) = decide (n.1 < 10) ∧ (n.1 < 10 → signAt n.1 = UInt8.ofNat (48 + n.1)) := by decide +kernel
  induction l with
  | nil => rfl
  | cons n l ih =>
    have h := hn ⟨n, hl n (List.mem_cons_self ..)⟩
    have ih' := ih (fun m hm => hl m (List.mem_cons_of_mem _ hm))
    unfold lowL lowH at ih' ⊢
    rw [List.map_cons, List.filter_cons, List.filter_cons, h.1]
    by_cases hc : n < 10
    · rw [decide_eq_true hc, if_pos rfl, if_pos rfl, List.map_cons, ih', h.2 hc]
    · rw [decide_eq_false hc, if_neg (by decide), if_neg (by decide), ih']
theorem highH_eq (l : List Nat) (hl : ∀ n ∈ l, n < 16) : highL (l.map signAt) = highH l := by
  have hn : ∀ n : Fin 16, decide ((signAt n.1).toNat ≤ 57) = decide (n.1 < 10) ∧ (¬ n.1 < 10 → UInt8.ofNat ((signAt n.1).toNat + 239) = UInt8.ofNat (38 + n.1)) := by decide +kernel
  induction l with
  | nil => rfl
  | cons n l ih =>
    have h := hn ⟨n, hl n (List.mem_cons_self ..)⟩
    have ih' := ih (fun m hm => hl m (List.mem_cons_of_mem _ hm))
    unfold highL highH at ih' ⊢
    rw [List.map_cons, List.filter_cons, List.filter_cons, h.1]
    by_cases hc : n < 10
    · rw [decide_eq_true hc]
      exact ih'
    · rw [decide_eq_false hc, if_pos (by decide), if_pos (by decide), List.map_cons, List.map_cons, ih', h.2 hc]
theorem valR_halves (key pan index pin : ByteArray) (B : ByteArray) (hB : sealN (kOne key) (kTwo key) (valMid pan index pin) false = B) : valR key pan index pin = ⟨((lowH (halvesN (bl B)) ++ highH (halvesN (bl B))).take 4).toArray⟩ := by
  subst hB
  have hu : bl (valU key pan index pin) = (halvesN (bl (sealN (kOne key) (kTwo key) (valMid pan index pin) false))).map signAt := by
    unfold valU
    rw [bl_mk]
    exact unpackL_halves _
  unfold valR
  rw [hu, lowH_eq _ (halvesN_lt _), highH_eq _ (halvesN_lt _)]
theorem low_high_len (l : List Nat) : (lowH l).length + (highH l).length = l.length := by
  unfold lowH highH
  rw [List.length_map, List.length_map]
  induction l with
  | nil => rfl
  | cons c l ih => by_cases h : c < 10 <;> simp [h] at ih ⊢ <;> omega
theorem take_snocN (l : List Nat) (i : Nat) (h : i < l.length) : l.take (i + 1) = l.take i ++ [l.getD i 0] := by
  rw [List.take_succ_eq_append_getElem h, List.getD_eq_getElem?_getD, List.getElem?_eq_getElem h]
  rfl
theorem nib_dig2 (c : UInt8) (h : isDig c = true) : nib c = c.toNat - 48 ∧ 48 ≤ c.toNat ∧ c.toNat ≤ 57 := by
  have hn : ∀ n : Fin 256, isDig (UInt8.ofNat n.1) = true → nib (UInt8.ofNat n.1) = (UInt8.ofNat n.1).toNat - 48 ∧ 48 ≤ (UInt8.ofNat n.1).toNat ∧ (UInt8.ofNat n.1).toNat ≤ 57 := by decide +kernel
  have := hn ⟨c.toNat, c.toNat_lt⟩
  simp only [UInt8.ofNat_toNat] at this
  exact this h
/-- The valid inputs' sixteen digits. -/
theorem valIn_dig (pan index pin : ByteArray) (h1 : digB (bl pan) 13 19 = true) (h2 : digB (bl pin) 4 12 = true) (h3 : withinB (bl index) (bl (sgnB.extract 1 7)) 1 1 = true) : ∀ c ∈ valIn pan index pin, isDig c = true := by
  obtain ⟨l1, l2, l3⟩ := digB_len h1
  obtain ⟨m1, m2, m3⟩ := digB_len h2
  unfold withinB at h3
  rw [Bool.and_eq_true, Bool.and_eq_true, List.all_eq_true] at h3
  have hx : ∀ n : Fin 256, (bl (sgnB.extract 1 7)).contains (UInt8.ofNat n.1) = true → isDig (UInt8.ofNat n.1) = true := by decide +kernel
  intro c hc
  unfold valIn at hc
  rcases List.mem_append.1 hc with h | h
  · rw [bl_extract, List.extract_eq_take_drop] at h
    exact l3 c (List.mem_of_mem_drop (List.mem_of_mem_take h))
  · rcases List.mem_append.1 h with h | h
    · have h2 := hx ⟨c.toNat, c.toNat_lt⟩
      simp only [UInt8.ofNat_toNat] at h2
      exact h2 (h3.1.1 c h)
    · rw [bl_extract, List.extract_eq_take_drop] at h
      exact m3 c (List.mem_of_mem_drop (List.mem_of_mem_take h))
def nibsL (V : List UInt8) : List Nat := V.map nib
theorem nibs_next (S : ByteArray) (V : List UInt8) (hS : bl S = V) (hd : ∀ c ∈ V, isDig c = true) (i : Nat) (hi : i < S.size) : natI ((nibsL V).take (i + 1)) = natI ((nibsL V).take i) ++ [(S[i].toNat : Int) - 48] ∧ 48 ≤ S[i].toNat ∧ S[i].toNat ≤ 57 := by
  subst hS
  have hp : i < (bl S).length := by rw [bl_length]; exact hi
  have hm : S[i] ∈ bl S := List.getElem_mem hp
  obtain ⟨n1, n2, n3⟩ := nib_dig2 _ (hd _ hm)
  refine ⟨?_, n2, n3⟩
  unfold nibsL
  rw [List.take_succ_eq_append_getElem (by rw [List.length_map]; exact hp), List.getElem_map]
  have e : (bl S)[i] = S[i] := rfl
  rw [e, n1]
  unfold natI
  rw [List.map_append, List.map_cons, List.map_nil]
  congr 2
  omega
theorem nibs_lt (V : List UInt8) (hd : ∀ c ∈ V, isDig c = true) : ∀ n ∈ nibsL V, n < 16 := by
  intro n hn
  unfold nibsL at hn
  obtain ⟨c, hc, rfl⟩ := List.mem_map.1 hn
  have := nib_dig2 c (hd c hc)
  omega
def outL (H : List Nat) : Nat → List UInt8
  | 0 => []
  | 1 => lowH H
  | _ => lowH H ++ highH H
def partL (k : Nat) (l : List Nat) : List UInt8 := if k = 0 then lowH l else highH l
theorem lowH_snoc (l : List Nat) (h : Nat) : lowH (l ++ [h]) = lowH l ++ (if h < 10 then [UInt8.ofNat (48 + h)] else []) := by
  unfold lowH
  by_cases hc : h < 10 <;> simp [hc]
theorem highH_snoc (l : List Nat) (h : Nat) : highH (l ++ [h]) = highH l ++ (if h < 10 then [] else [UInt8.ofNat (38 + h)]) := by
  unfold highH
  by_cases hc : h < 10 <;> simp [hc]
theorem lowH_len (l : List Nat) : (lowH l).length ≤ l.length := by unfold lowH; rw [List.length_map]; exact List.length_filter_le _ _
theorem highH_len (l : List Nat) : (highH l).length ≤ l.length := by unfold highH; rw [List.length_map]; exact List.length_filter_le _ _
theorem out_step (A : List UInt8) (c : UInt8) (v : Int) (hv : v = (c.toNat : Int)) : (⟨A.toArray⟩ : ByteArray) ++ strOfNums [v] = ⟨(A ++ [c]).toArray⟩ := by
  subst hv
  apply bl_ext
  have e : strOfNums [(c.toNat : Int)] = ⟨#[c]⟩ := by simp [strOfNums]
  rw [e]
  simp [bl, ByteArray.data_append]
theorem out_small (A : List UInt8) (hA : A.length ≤ 100) (v : Int) : (⟨A.toArray⟩ : ByteArray).size + (strOfNums [v]).size ≤ 9223372036854775807 := by
  rw [size_mk A, strOfNums_size]
  simp
  omega
theorem r40 (l : List Nat) (hl : l.length = 16) (hn : ∀ n ∈ l, n < 16) (v : Value) (w : World) (base : Nat) (H : Kd.R (Kd.int .i64) 3 w base (fun _ => True) v (natI l)) : Calls Tryd.prog 40 #[v] w fun e w' => e = .returned (.string ⟨(packL l).toArray⟩) ∧ Below w.heap.size w w' := by
  obtain ⟨A, c, rfl, h1, h2⟩ := Kd.R_reads H
  exact turnstileref6_bytes.calls 17 A c (natI l) _ w h2 h1 (rbytes_eq l (by omega) hn (by omega) 17 (by omega))
theorem r44 (s : ByteArray) (hs : s.size = 8) (H : List Nat) (hH : halvesN (bl s) = H) (w : World) : Calls Tryd.prog 44 #[.string s] w fun e w' => ∃ g c, e = .returned (.slice (some ⟨g, 0, none⟩) 16 c) ∧ g < w'.heap.size ∧ (∀ i, i < 16 → w'.cell? ⟨g, i, none⟩ = some (.int .i64 ((H.getD i 0 : Nat) : Int))) ∧ Below w.heap.size w w' := by
  refine (turnstileref6_halves.calls 9 s _ w (rhalves_eq s (by omega) 9 (by omega))).mono ?_
  rintro e w' ⟨v, rfl, hR, hb⟩
  have hl : (halvesN (bl s)).length = 16 := by rw [halvesN_length, bl_length]; omega
  obtain ⟨g, cap, rfl, _, hg, _⟩ := Kd.R_form hR (by rw [natI_length]; omega)
  have hn : (natI (halvesN (bl s))).length = 16 := by rw [natI_length]; exact hl
  refine ⟨g, cap, by rw [hn], hg, fun i hi => ?_, hb⟩
  have h := (Kd.R_cell (enc := Value.int .i64) (h1 := fun _ => rfl) (0 : Int) hR (i : Int) (by omega) (by rw [natI_length]; omega)).1
  rw [Int.toNat_natCast] at h
  rw [h]
  congr 2
  rw [← hH]
  exact rd_natI _ i
def outK (H : List Nat) (k i : Nat) : List UInt8 := outL H k ++ partL k (H.take i)
theorem outK_zero (H : List Nat) (k : Nat) : outK H k 0 = outL H k := by
  unfold outK partL
  rw [List.take_zero]
  split <;> simp [lowH, highH]
theorem outK_len (H : List Nat) (hl : H.length = 16) (k i : Nat) (hk : k < 2) : (outK H k i).length ≤ 100 := by
  have h1 := lowH_len H
  have h2 := lowH_len (H.take i)
  have h3 := highH_len (H.take i)
  have h4 : (H.take i).length ≤ 16 := by rw [List.length_take]; omega
  have h5 : k = 0 ∨ k = 1 := by omega
  rcases h5 with rfl | rfl
  · show ([] ++ lowH (H.take i)).length ≤ 100
    rw [List.nil_append]
    omega
  · show (lowH H ++ highH (H.take i)).length ≤ 100
    rw [List.length_append]
    omega
theorem outK_end0 (H : List Nat) (hl : H.length = 16) : outK H 0 16 = outL H 1 := by
  show [] ++ lowH (H.take 16) = lowH H
  rw [List.take_of_length_le (by omega), List.nil_append]
theorem outK_end1 (H : List Nat) (hl : H.length = 16) : outK H 1 16 = outL H 2 := by
  show lowH H ++ highH (H.take 16) = lowH H ++ highH H
  rw [List.take_of_length_le (by omega)]
theorem outK_add0 (H : List Nat) (i v : Nat) (hi : i < H.length) (h : H.getD i 0 = v) (hv : v < 10) : (⟨(outK H 0 i).toArray⟩ : ByteArray) ++ strOfNums [48 + (v : Int)] = ⟨(outK H 0 (i + 1)).toArray⟩ := by
  have e : outK H 0 (i + 1) = outK H 0 i ++ [UInt8.ofNat (48 + v)] := by
    show [] ++ lowH (H.take (i + 1)) = ([] ++ lowH (H.take i)) ++ _
    rw [take_snocN H i hi, h, lowH_snoc, if_pos hv, List.append_assoc]
  rw [e]
  exact out_step _ _ _ (by rw [UInt8.toNat_ofNat']; omega)
theorem outK_same0 (H : List Nat) (i v : Nat) (hi : i < H.length) (h : H.getD i 0 = v) (hv : ¬ v < 10) : outK H 0 (i + 1) = outK H 0 i := by
  show [] ++ lowH (H.take (i + 1)) = [] ++ lowH (H.take i)
  rw [take_snocN H i hi, h, lowH_snoc, if_neg hv, List.append_nil]
theorem outK_add1 (H : List Nat) (i v : Nat) (hi : i < H.length) (h : H.getD i 0 = v) (hv : ¬ v < 10) (hv' : v < 16) : (⟨(outK H 1 i).toArray⟩ : ByteArray) ++ strOfNums [38 + (v : Int)] = ⟨(outK H 1 (i + 1)).toArray⟩ := by
  have e : outK H 1 (i + 1) = outK H 1 i ++ [UInt8.ofNat (38 + v)] := by
    show lowH H ++ highH (H.take (i + 1)) = (lowH H ++ highH (H.take i)) ++ _
    rw [take_snocN H i hi, h, highH_snoc, if_neg hv, List.append_assoc]
  rw [e]
  exact out_step _ _ _ (by rw [UInt8.toNat_ofNat']; omega)
theorem outK_same1 (H : List Nat) (i v : Nat) (hi : i < H.length) (h : H.getD i 0 = v) (hv : v < 10) : outK H 1 (i + 1) = outK H 1 i := by
  show lowH H ++ highH (H.take (i + 1)) = lowH H ++ highH (H.take i)
  rw [take_snocN H i hi, h, highH_snoc, if_pos hv, List.append_nil]
set_option maxRecDepth 100000 in
set_option maxHeartbeats 8000000 in
theorem c21_ok (key pan index pin : ByteArray) (w : World) (hk : key.size = 16) (h1 : digB (bl pan) 13 19 = true) (h2 : digB (bl pin) 4 12 = true) (h3 : withinB (bl index) (bl (sgnB.extract 1 7)) 1 1 = true) :
    Calls Tryd.prog 21 #[.string key, .string pan, .string index, .string pin] w fun e w' => e = .returned (.tuple #[.string (valR key pan index pin), .int .i64 0]) ∧ Below w.heap.size w w' := by
  obtain ⟨v1, v2⟩ := valIn_len pan index pin h1 h2 h3
  have v3 := valIn_dig pan index pin h1 h2 h3
  obtain ⟨l1, l2, l3⟩ := digB_len h1
  obtain ⟨m1, m2, m3⟩ := digB_len h2
  rw [bl_length] at l1 l2 m1 m2
  have hi : index.size = 1 := by
    unfold withinB at h3
    rw [Bool.and_eq_true, Bool.and_eq_true, decide_eq_true_eq, decide_eq_true_eq, bl_length] at h3
    omega
  have C37 := Lib.hid (r37 pan (by omega) true h1)
  have C36 := Lib.hid (r36 pin (by omega) true h2)
  have k1 : ((key.size : Int) != 16) = false := bne_eq_false_iff_eq.mpr (by omega)
  have k2 : ((index.size : Int) != 1) = false := bne_eq_false_iff_eq.mpr (by omega)
  have hix : ∃ c : UInt8, 49 ≤ c.toNat ∧ c.toNat ≤ 54 ∧ ∀ h : 0 < index.size, index[0] = c := by
    have hm : index[0]'(by omega) ∈ bl index := List.getElem_mem (l := bl index) (n := 0) (by rw [bl_length]; omega)
    unfold withinB at h3
    rw [Bool.and_eq_true, Bool.and_eq_true, List.all_eq_true] at h3
    have hc := h3.1.1 _ hm
    have hx : ∀ n : Fin 256, (bl (sgnB.extract 1 7)).contains (UInt8.ofNat n.1) = true → 49 ≤ (UInt8.ofNat n.1).toNat ∧ (UInt8.ofNat n.1).toNat ≤ 54 := by decide +kernel
    have h4 := hx ⟨(index[0]'(by omega)).toNat, UInt8.toNat_lt _⟩
    simp only [UInt8.ofNat_toNat] at h4
    exact ⟨_, (h4 hc).1, (h4 hc).2, fun _ => rfl⟩
  obtain ⟨c0, hc1, hc2, hc0⟩ := hix
  have k3 : decide ((c0.toNat : Int) < 49) = false := decide_eq_false (by omega)
  have k4 : decide (54 < (c0.toNat : Int)) = false := decide_eq_false (by omega)
  have k5 : 0 < index.size := by omega
  have hc0' : index[0] = c0 := hc0 k5
  have q12 : IntKind.i64.wrap ((pan.size : Int) - 12) = ((pan.size - 12 : Nat) : Int) := by rw [IntKind.wrap_i64]; omega
  have q1 : IntKind.i64.wrap ((pan.size : Int) - 1) = ((pan.size - 1 : Nat) : Int) := by rw [IntKind.wrap_i64]; omega
  obtain ⟨PA, hPA⟩ : ∃ PA : ByteArray, PA = pan.extract (pan.size - 12) (pan.size - 1) := ⟨_, rfl⟩
  obtain ⟨P4, hP4⟩ : ∃ P4 : ByteArray, P4 = pin.extract 0 4 := ⟨_, rfl⟩
  have sl1 : ∀ W, (Instr.slice 9 (.string pan) (some (.int .i64 ((pan.size - 12 : Nat) : Int))) (some (.int .i64 ((pan.size - 1 : Nat) : Int))) none).run Tryd.prog W = .ok (.string PA) W := fun W => by rw [hPA]; exact slice_of pan (pan.size - 12) (pan.size - 1) (by omega) (by omega) W
  have sl2 : ∀ W, (Instr.slice 9 (.string pin) none (some (.int .i64 4)) none).run Tryd.prog W = .ok (.string P4) W := fun W => by rw [hP4]; exact slice_to pin 4 (by omega) W
  have hV : bl (PA ++ index ++ P4) = valIn pan index pin := by
    rw [hPA, hP4]
    unfold valIn
    simp [bl, ByteArray.data_append]
  have a1 : PA.size ≤ 19 := by rw [hPA, ← bl_length, bl_extract, List.extract_eq_take_drop, List.length_take]; omega
  have a2 : P4.size ≤ 4 := by rw [hP4, ← bl_length, bl_extract, List.extract_eq_take_drop, List.length_take]; omega
  have b1 : decide (PA.size + 1 ≤ 9223372036854775807) = true := decide_eq_true (by omega)
  have b2 : (9223372036854775807 < PA.size + 1) = False := eq_false (by omega)
  have b3 : decide (PA.size + 1 + P4.size ≤ 9223372036854775807) = true := decide_eq_true (by omega)
  have b4 : (9223372036854775807 < PA.size + 1 + P4.size) = False := eq_false (by omega)
  have HV := Lib.hid hV
  have V1 := Lib.hid v1
  have V3 := Lib.hid v3
  have HK := Lib.hid hk
  clear h1 h2 h3 v1 v2 v3 l3 m3 hPA hP4 hV a1 a2 hc0 hk hc1 hc2
  go_enter Tryd.func21, Tryd.ntmps21
  have HB := Lib.hid (Below.refl w.heap.size w)
  go_wp2_with (first
    | (go_at_call 37; (with_reducible refine (C37.out _).mono ?_); rintro e w' ⟨n37, rfl, rfl⟩)
    | (go_at_call 36; (with_reducible refine (C36.out _).mono ?_); rintro e w' ⟨n36, rfl, rfl⟩))
  go_region
  have n0 := Lib.hid (HB.out.trans (below_drewN2 _ _ (n37 + n36)))
  clear HB
  go_wp2_with fail
  generalize hS : PA ++ index ++ P4 = S at *
  have hS16 : S.size = 16 := by rw [← bl_length, HV.out]; exact V1.out
  have HS16 := Lib.hid hS16
  have hlen : (nibsL (valIn pan index pin)).length = 16 := by unfold nibsL; rw [List.length_map]; exact V1.out
  have HLEN := Lib.hid hlen
  clear hS hS16 hlen sl1 sl2 b1 b2 b3 b4 q12 q1 hc0' k1 k2 k3 k4 n0
  go_loopg [13, 14] 16 (fun kq v13 v14 w' => ∃ i : Nat, i + kq = 16 ∧ v14 = .int .i64 (i : Int) ∧ Hid (Kd.R (Kd.int .i64) 3 w' w.heap.size (fun _ => True) v13 (natI ((nibsL (valIn pan index pin)).take i))) ∧ Hid (Below w.heap.size w w'))
  case atStart => exact ⟨0, rfl, rfl, Lib.hid (Kd.R_nil _ _ _ _ _), Lib.hid (by repeat (first | exact Below.refl _ _ | apply pw_below_drewN | apply below_drew1))⟩
  case round =>
    obtain ⟨i, hi16, rfl, HO, HB⟩ := hrel
    by_cases h16 : i < 16
    · have hlt0 : i < S.size := by rw [HS16.out]; exact h16
      have hlt : decide (i < S.size) = true := decide_eq_true hlt0
      obtain ⟨hn, h48, h57⟩ := nibs_next S (valIn pan index pin) HV.out V3.out i hlt0
      have HN := Lib.hid hn
      clear hn
      go_wp2_with (first
        | ((with_reducible refine gate_builtin (b := .append) (xs := #[.tmp 68, .tmp 74]) rfl ?_); at_builtin; refine Kd.R_append (Kd.int .i64) (w0 := w) w.heap.size rfl (.tmp 68) (.tmp 74) 60 3 (.int .i64 0) 8 rfl Tryd.underlying60 info3 rfl (by decide) (by decide) u13 (natI ((nibsL (valIn pan index pin)).take i)) ((S[i].toNat : Int) - 48) [.int .i64 ((S[i].toNat : Int) - 48)] (fun _ => True) (fun k => some k ≠ u13.ownBlock) rfl rfl rfl (fun _ h => ⟨trivial, h⟩) (fun _ _ => trivial) HO.out HB.out HB.out.size (by rw [natI_length, List.length_take]; omega) ?_; intro v75 w75 ho hb hg hat; have HO75 := Lib.hid ho; have HB75 := Lib.hid hb; clear ho hb hg hat))
      go_roundg (gk - 1)
      case measure => omega
      case rel => exact ⟨i + 1, by omega, rfl, Lib.hid (by rw [HN.out]; exact HO75.out), HB75⟩
    · have hlt : decide (i < S.size) = false := decide_eq_false (by rw [HS16.out]; exact h16)
      have C40 := Lib.hid (fun w' (H : Kd.R (Kd.int .i64) 3 w' w.heap.size (fun _ => True) u13 (natI (nibsL (valIn pan index pin)))) => r40 (nibsL (valIn pan index pin)) HLEN.out (nibs_lt _ V3.out) u13 w' w.heap.size H)
      have HO' := Lib.hid (show Kd.R (Kd.int .i64) 3 wr w.heap.size (fun _ => True) u13 (natI (nibsL (valIn pan index pin))) from by have h := HO.out; rwa [List.take_of_length_le (by rw [HLEN.out]; omega)] at h)
      have hM8 : (valMid pan index pin).size = 8 := by
        unfold valMid
        rw [size_mk (packL _), packL_length, List.length_map, V1.out]
      have C46 := Lib.hid (rturn key (valMid pan index pin) false HK.out hM8)
      have hz8 := sealN_size (kOne key) (kTwo key) (valMid pan index pin) false
      have hR := valR_halves key pan index pin _ rfl
      generalize sealN (kOne key) (kTwo key) (valMid pan index pin) false = B at *
      obtain ⟨H, hH⟩ : ∃ H, halvesN (bl B) = H := ⟨_, rfl⟩
      have C44 := Lib.hid (r44 B hz8 H hH)
      have hl16 : H.length = 16 := by rw [← hH, halvesN_length, bl_length, hz8]
      have HLT := Lib.hid (show ∀ n ∈ H, n < 16 from by rw [← hH]; exact halvesN_lt _)
      rw [hH] at hR
      have HR := Lib.hid hR
      have HL16 := Lib.hid hl16
      clear hR hH hl16 hz8
      clear hM8 hi16
      go_wp2_with (first
        | (go_at_call 40; (with_reducible refine (C40.out _ HO'.out).mono ?_); rintro e w40 ⟨rfl, hb⟩; have HB40 := Lib.hid (below_next HB.out hb); clear hb; rw [show (⟨(packL (nibsL (valIn pan index pin))).toArray⟩ : ByteArray) = valMid pan index pin from rfl])
        | (go_at_call 46; (with_reducible refine (C46.out _).mono ?_); rintro e w46 ⟨rfl, hb⟩; have HB46 := Lib.hid (below_next HB40.out hb); clear hb)
        | (go_at_call 44; (with_reducible refine (C44.out _).mono ?_); rintro e w44 ⟨g17, c17, rfl, hg17, hrow, hb⟩; have HROW := Lib.hid hrow; have HG17 := Lib.hid hg17; clear hg17; have HB44 := Lib.hid (below_next HB46.out hb); clear hb hrow))
      clear hlt h16
      go_loopg [18, 19] 2 (fun kq v18 v19 w' => ∃ k : Nat, k + kq = 2 ∧ v19 = .int .i64 (k : Int) ∧ v18 = .string ⟨(outL H k).toArray⟩ ∧ Hid (Below w44.heap.size w44 w'))
      case atStart => exact ⟨0, rfl, rfl, rfl, Lib.hid (Below.refl _ _)⟩
      case round =>
        obtain ⟨k, hk2, rfl, rfl, HBo⟩ := hrel
        by_cases hk : k < 2
        · obtain ⟨k1, rfl⟩ : ∃ m, gk = m + 1 := ⟨gk - 1, by omega⟩
          rcases (show k = 0 ∨ k = 1 by omega) with rfl | rfl
          · go_wp2_with fail
            go_loopg [18, 20] 16 (fun kq v18 v20 w' => ∃ i : Nat, i + kq = 16 ∧ v20 = .int .i64 (i : Int) ∧ v18 = .string ⟨(outK H 0 i).toArray⟩ ∧ Hid (Below w44.heap.size w44 w'))
            case atStart => exact ⟨0, rfl, rfl, by rw [outK_zero], HBo⟩
            case round =>
              obtain ⟨i, hi16, rfl, rfl, HBi⟩ := hrel
              by_cases h16 : i < 16
              · have hlt : decide ((i : Int) < 16) = true := decide_eq_true (by omega)
                have hc : wr.cell? ⟨g17, i, none⟩ = some (.int .i64 ((H.getD i 0 : Nat) : Int)) := by
                  rw [HBi.out.cell HG17.out]
                  exact HROW.out i h16
                generalize hcv : H.getD i 0 = v at hc
                have hv16 : v < 16 := by
                  rw [← hcv, List.getD_eq_getElem?_getD, List.getElem?_eq_getElem (by rw [HL16.out]; exact h16)]
                  exact HLT.out _ (List.getElem_mem _)
                have HCV := Lib.hid hcv
                have HV16 := Lib.hid hv16
                clear hcv
                by_cases h10 : v < 10
                · have d10 : decide ((v : Int) < 10) = true := decide_eq_true (by omega)
                  have d10' : decide (10 ≤ (v : Int)) = false := decide_eq_false (by omega)
                  have big := out_small (outK H 0 i) (outK_len H HL16.out 0 i (by decide)) (48 + (v : Int))
                  obtain ⟨X, hX⟩ : ∃ X : ByteArray, X = strOfNums [48 + (v : Int)] := ⟨_, rfl⟩
                  have kc : ∀ W : World, (convert 40 9 (.slice (some ⟨W.heap.size, 0, none⟩) 1 1)).run Tryd.prog (W.alloc (.cells #[.int .u8 (48 + (v : Int))] 5)) = .ok (.string X) (W.alloc (.cells #[.int .u8 (48 + (v : Int))] 5)) := fun W => by rw [hX]; exact conv1 W _
                  rw [← hX] at big
                  have HX := Lib.hid hX
                  clear hX
                  generalize hL : (⟨(outK H 0 i).toArray⟩ : ByteArray) = L at *
                  have HL := Lib.hid hL
                  clear hL
                  have b1 := decide_eq_true big
                  have b2 : (9223372036854775807 < L.size + X.size) = False := eq_false (Nat.not_lt.2 big)
                  clear big
                  go_wp2
                  go_roundg (gk - 1)
                  case measure => omega
                  case rel => exact ⟨i + 1, by omega, rfl, by rw [← outK_add0 H i v (by rw [HL16.out]; exact h16) HCV.out (by omega), HL.out, HX.out], Lib.hid (HBi.out.alloc HBi.out.size _)⟩
                · have d10 : decide ((v : Int) < 10) = false := decide_eq_false (by omega)
                  have d10' : decide (10 ≤ (v : Int)) = true := decide_eq_true (by omega)
                  go_wp2
                  go_roundg (gk - 1)
                  case measure => omega
                  case rel => exact ⟨i + 1, by omega, rfl, by rw [outK_same0 H i v (by rw [HL16.out]; exact h16) HCV.out (by omega)], HBi⟩
              · have hlt : decide ((i : Int) < 16) = false := decide_eq_false (by omega)
                have HI := Lib.hid (show i = 16 by omega)
                clear hi16
                go_wp2_with fail
                go_roundg k1
                case measure => omega
                case rel => exact ⟨1, by omega, rfl, by rw [HI.out, outK_end0 H HL16.out], HBi⟩
          · go_wp2_with fail
            go_loopg [18, 20] 16 (fun kq v18 v20 w' => ∃ i : Nat, i + kq = 16 ∧ v20 = .int .i64 (i : Int) ∧ v18 = .string ⟨(outK H 1 i).toArray⟩ ∧ Hid (Below w44.heap.size w44 w'))
            case atStart => exact ⟨0, rfl, rfl, by rw [outK_zero], HBo⟩
            case round =>
              obtain ⟨i, hi16, rfl, rfl, HBi⟩ := hrel
              by_cases h16 : i < 16
              · have hlt : decide ((i : Int) < 16) = true := decide_eq_true (by omega)
                have hc : wr.cell? ⟨g17, i, none⟩ = some (.int .i64 ((H.getD i 0 : Nat) : Int)) := by
                  rw [HBi.out.cell HG17.out]
                  exact HROW.out i h16
                generalize hcv : H.getD i 0 = v at hc
                have hv16 : v < 16 := by
                  rw [← hcv, List.getD_eq_getElem?_getD, List.getElem?_eq_getElem (by rw [HL16.out]; exact h16)]
                  exact HLT.out _ (List.getElem_mem _)
                have HCV := Lib.hid hcv
                have HV16 := Lib.hid hv16
                clear hcv
                by_cases h10 : v < 10
                · have d10 : decide ((v : Int) < 10) = true := decide_eq_true (by omega)
                  have d10' : decide (10 ≤ (v : Int)) = false := decide_eq_false (by omega)
                  go_wp2
                  go_roundg (gk - 1)
                  case measure => omega
                  case rel => exact ⟨i + 1, by omega, rfl, by rw [outK_same1 H i v (by rw [HL16.out]; exact h16) HCV.out (by omega)], HBi⟩
                · have d10 : decide ((v : Int) < 10) = false := decide_eq_false (by omega)
                  have d10' : decide (10 ≤ (v : Int)) = true := decide_eq_true (by omega)
                  have big := out_small (outK H 1 i) (outK_len H HL16.out 1 i (by decide)) (38 + (v : Int))
                  obtain ⟨X, hX⟩ : ∃ X : ByteArray, X = strOfNums [38 + (v : Int)] := ⟨_, rfl⟩
                  have kc : ∀ W : World, (convert 40 9 (.slice (some ⟨W.heap.size, 0, none⟩) 1 1)).run Tryd.prog (W.alloc (.cells #[.int .u8 (38 + (v : Int))] 5)) = .ok (.string X) (W.alloc (.cells #[.int .u8 (38 + (v : Int))] 5)) := fun W => by rw [hX]; exact conv1 W _
                  rw [← hX] at big
                  have HX := Lib.hid hX
                  clear hX
                  generalize hL : (⟨(outK H 1 i).toArray⟩ : ByteArray) = L at *
                  have HL := Lib.hid hL
                  clear hL
                  have b1 := decide_eq_true big
                  have b2 : (9223372036854775807 < L.size + X.size) = False := eq_false (Nat.not_lt.2 big)
                  clear big
                  go_wp2
                  go_roundg (gk - 1)
                  case measure => omega
                  case rel => exact ⟨i + 1, by omega, rfl, by rw [← outK_add1 H i v (by rw [HL16.out]; exact h16) HCV.out (by omega) HV16.out, HL.out, HX.out], Lib.hid (HBi.out.alloc HBi.out.size _)⟩
              · have hlt : decide ((i : Int) < 16) = false := decide_eq_false (by omega)
                have HI := Lib.hid (show i = 16 by omega)
                clear hi16
                go_wp2_with fail
                go_roundg k1
                case measure => omega
                case rel => exact ⟨2, by omega, rfl, by rw [HI.out, outK_end1 H HL16.out], HBi⟩
        · have HKK := Lib.hid (show k = 2 by omega)
          have hlt : decide ((k : Int) < 2) = false := decide_eq_false (by omega)
          have hT : (⟨(outL H k).toArray⟩ : ByteArray).size = 16 := by
            rw [HKK.out, size_mk (outL H 2)]
            show (lowH H ++ highH H).length = 16
            rw [List.length_append, low_high_len, HL16.out]
          have hE : ByteArray.extract ⟨(outL H k).toArray⟩ 0 4 = valR key pan index pin := by
            rw [HR.out, HKK.out]
            apply bl_ext
            rw [bl_extract, List.extract_eq_take_drop]
            rfl
          generalize (⟨(outL H k).toArray⟩ : ByteArray) = T at *
          have hz4 : (4 : Int) ≤ (T.size : Int) := by omega
          have HE := Lib.hid hE
          clear hT hE hk2 hk
          go_wp2_with fail
          go_ret2
          have e1 : Ending.returned (.tuple #[.string (T.extract 0 4), .int .i64 0]) = Ending.returned (.tuple #[.string (valR key pan index pin), .int .i64 0]) := by rw [HE.out]
          exact ⟨e1, below_next HB44.out HBo.out⟩
end Go.Proofs.YtkjjdodnkcmeiaaDoor.PX
