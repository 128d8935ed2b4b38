/- The walk of the law PinValue, and the law: four digits, and on what they hang. -/
import Derived.Test.YtkjjdodnkcmeiaaDoorPv
import Derived.Test.YtkjjdodnkcmeiaaDoorVal
namespace Go.Proofs.YtkjjdodnkcmeiaaDoor.PX
open Go.RowKit Go.Proofs.YtkjjdodnkcmeiaaDoorW.PrintWords Go.Proofs.YtkjjdodnkcmeiaaDoorW.PrintLast Go.Proofs.YtkjjdodnkcmeiaaDoorW.PrintMore

theorem valR_congr {key pan index pin pan' pin' : ByteArray} (h : valIn pan' index pin' = valIn pan index pin) : valR key pan' index pin' = valR key pan index pin := by
  unfold valR valU valMid
  rw [h]
theorem bl_append2 (a b : ByteArray) : bl (a ++ b) = bl a ++ bl b := by simp [bl, ByteArray.data_append]
theorem valR_size (key pan index pin : ByteArray) : (valR key pan index pin).size = 4 := by
  have h := low_high (bl (valU key pan index pin))
  rw [bl_length, valU_size] at h
  unfold valR
  rw [size_mk (List.take _ _), List.length_take, List.length_append]
  omega
theorem unpackL_sign (l : List UInt8) (c : UInt8) (h : c ∈ unpackL l) : (c.toNat ≤ 57 → isDig c = true) ∧ (¬ c.toNat ≤ 57 → isDig (UInt8.ofNat (c.toNat + 239)) = true) := by
  unfold unpackL at h
  obtain ⟨x, hx, h⟩ := List.mem_flatMap.1 h
  have hn : ∀ n : Fin 16, ((signAt n.1).toNat ≤ 57 → isDig (signAt n.1) = true) ∧ (¬ (signAt n.1).toNat ≤ 57 → isDig (UInt8.ofNat ((signAt n.1).toNat + 239)) = true) := by decide +kernel
  have hlt := x.toNat_lt
  have h1 := hn ⟨x.toNat / 16, by omega⟩
  have h2 := hn ⟨x.toNat % 16, by omega⟩
  simp only [List.mem_cons, List.not_mem_nil, or_false] at h
  rcases h with rfl | rfl
  · exact h1
  · exact h2
theorem low_high_dig (l : List UInt8) : ∀ c ∈ lowL (unpackL l) ++ highL (unpackL l), isDig c = true := by
  intro c hc
  rcases List.mem_append.1 hc with h | h
  · unfold lowL at h
    obtain ⟨h1, h2⟩ := List.mem_filter.1 h
    exact (unpackL_sign l c h1).1 (of_decide_eq_true h2)
  · unfold highL at h
    obtain ⟨d, hd, rfl⟩ := List.mem_map.1 h
    obtain ⟨h1, h2⟩ := List.mem_filter.1 hd
    exact (unpackL_sign l d h1).2 (by simpa using h2)
theorem valR_dig (key pan index pin : ByteArray) : ∀ c ∈ bl (valR key pan index pin), isDig c = true := by
  intro c hc
  unfold valR at hc
  rw [bl_mk] at hc
  have h := List.mem_of_mem_take hc
  unfold valU at h
  rw [bl_mk] at h
  exact low_high_dig _ c h
theorem index_ok (x : Nat) (hx : x < 6) : withinB (bl (strOfNums [49 + (x : Int)])) (bl (sgnB.extract 1 7)) 1 1 = true := by
  have h : ∀ x : Fin 6, withinB (bl (strOfNums [49 + (x.1 : Int)])) (bl (sgnB.extract 1 7)) 1 1 = true := by decide +kernel
  exact h ⟨x, hx⟩
theorem last_ok (z : Nat) (hz : z < 10) : ∀ c ∈ bl (strOfNums [48 + (z : Int)]), isDig c = true := by
  have h : ∀ z : Fin 10, ∀ c ∈ bl (strOfNums [48 + (z.1 : Int)]), isDig c = true := by decide +kernel
  exact h ⟨z, hz⟩
theorem ext_len (s : ByteArray) (i j : Nat) (hj : j ≤ s.size) : (s.extract i j).size = j - i := by
  rw [← bl_length, bl_extract, List.extract_eq_take_drop, List.length_take, List.length_drop, bl_length]
  omega
theorem ext_dig {s : ByteArray} (h : ∀ c ∈ bl s, isDig c = true) (i j : Nat) : ∀ c ∈ bl (s.extract i j), isDig c = true := by
  intro c hc
  rw [bl_extract, List.extract_eq_take_drop] at hc
  exact h c (List.mem_of_mem_drop (List.mem_of_mem_take hc))
theorem app_dig {a b : ByteArray} (ha : ∀ c ∈ bl a, isDig c = true) (hb : ∀ c ∈ bl b, isDig c = true) : ∀ c ∈ bl (a ++ b), isDig c = true := by
  intro c hc
  rw [bl_append2] at hc
  rcases List.mem_append.1 hc with h | h
  · exact ha c h
  · exact hb c h
theorem inPin (pan index p t : ByteArray) (hp : p.size = 4) : valIn pan index (p ++ t) = valIn pan index p := by
  unfold valIn
  congr 2
  rw [bl_extract, bl_extract, bl_append2, List.extract_eq_take_drop, List.extract_eq_take_drop, List.drop_zero, List.drop_zero, List.take_append_of_le_length (by rw [bl_length]; omega)]
theorem mid1 (l : List UInt8) (S : List UInt8) (m : Nat) (hl : l.length = 13 + m) : ((l.take (12 + m) ++ S).drop (1 + m)).take 11 = (l.drop (1 + m)).take 11 := by
  rw [List.drop_append_of_le_length (by rw [List.length_take]; omega), List.take_append_of_le_length (by rw [List.length_drop, List.length_take]; omega), List.drop_take, List.take_take]
  congr 1
  omega
theorem mid2 (l : List UInt8) (c : UInt8) (m : Nat) : (([c] ++ (l.drop (1 + m)).take 12).drop 1).take 11 = (l.drop (1 + m)).take 11 := by
  rw [List.singleton_append, List.drop_one, List.tail_cons, List.take_take]
  rfl
theorem panPart (s : ByteArray) (n : Nat) (h : s.size = 13 + n) : bl (s.extract (s.size - 12) (s.size - 1)) = ((bl s).drop (1 + n)).take 11 := by
  rw [bl_extract, List.extract_eq_take_drop, h, show 13 + n - 12 = 1 + n by omega, show 13 + n - 1 - (1 + n) = 11 by omega]
theorem inPan1 (pan index p S : ByteArray) (m : Nat) (hs : pan.size = 13 + m) (hS : S.size = 1) : valIn (pan.extract 0 (12 + m) ++ S) index p = valIn pan index p := by
  have e1 := ext_len pan 0 (12 + m) (by omega)
  have h : bl ((pan.extract 0 (12 + m) ++ S).extract ((pan.extract 0 (12 + m) ++ S).size - 12) ((pan.extract 0 (12 + m) ++ S).size - 1)) = bl (pan.extract (pan.size - 12) (pan.size - 1)) := by
    rw [panPart _ m (by rw [ba_append_size, e1, hS]; omega), panPart _ m hs, bl_append2, bl_extract, List.extract_eq_take_drop, List.drop_zero, Nat.sub_zero]
    exact mid1 (bl pan) (bl S) m (by rw [bl_length]; exact hs)
  unfold valIn
  rw [h]
theorem inPan2 (pan index p : ByteArray) (m : Nat) (hs : pan.size = 13 + m) : valIn ((⟨#[55]⟩ : ByteArray) ++ pan.extract (1 + m) (13 + m)) index p = valIn pan index p := by
  have e1 := ext_len pan (1 + m) (13 + m) (by omega)
  have h1 : (⟨#[55]⟩ : ByteArray).size = 1 := rfl
  have h0 : bl (⟨#[55]⟩ : ByteArray) = [55] := rfl
  have h : bl (((⟨#[55]⟩ : ByteArray) ++ pan.extract (1 + m) (13 + m)).extract (((⟨#[55]⟩ : ByteArray) ++ pan.extract (1 + m) (13 + m)).size - 12) (((⟨#[55]⟩ : ByteArray) ++ pan.extract (1 + m) (13 + m)).size - 1)) = bl (pan.extract (pan.size - 12) (pan.size - 1)) := by
    rw [panPart _ 0 (by rw [ba_append_size, e1, h1]; omega), panPart _ m hs, bl_append2, bl_extract, List.extract_eq_take_drop, h0, show 13 + m - (1 + m) = 12 by omega]
    exact mid2 (bl pan) 55 m
  unfold valIn
  rw [h]
theorem conv1n (W : World) (n : Nat) (v : Int) : (convert 40 9 (.slice (some ⟨W.heap.size, 0, none⟩) 1 1)).run Tryd.prog ((W.drewN n).alloc (.cells #[.int .u8 v] 5)) = .ok (.string (strOfNums [v])) ((W.drewN n).alloc (.cells #[.int .u8 v] 5)) := by
  have h := conv1 (W.drewN n) v
  rwa [size_drewN''] at h
theorem slice_from (s : ByteArray) (a : Nat) (ha : a ≤ s.size) (W : World) : (Instr.slice 9 (.string s) (some (.int .i64 (a : Int))) none none).run Tryd.prog W = .ok (.string (s.extract a s.size)) W := by
  have h1 : (a : Int) ≤ s.size := by omega
  have h0 : (0 : Int) ≤ a := by omega
  go_simp
theorem drawn_below' {w w' : World} (h : Drawn0 w w') : Below w.heap.size w w' := by
  obtain ⟨n, rfl⟩ := h
  exact below_drewN2 _ _ _
theorem turnstilelaw6_PinValue.pure : True := trivial
theorem turnstilelaw6_PinValue.walk (_ : True) (a0 a1 : ByteArray) (a2 : Int) (a3 : ByteArray) (a4 : Int) (a5 : ByteArray) (a6 a7 : Int) (w : World) (s0 : a0.size ≤ 140737488351232) (s1 : a1.size ≤ 140737488351232) (w2 : (Lit.int .i64 a2).wf = true) (s3 : a3.size ≤ 140737488351232)
    (w4 : (Lit.int .i64 a4).wf = true) (s5 : a5.size ≤ 140737488351232) (w6 : (Lit.int .i64 a6).wf = true) (w7 : (Lit.int .i64 a7).wf = true) :
    Calls Tryd.prog 6 #[.string a0, .string a1, .int .i64 a2, .string a3, .int .i64 a4, .string a5, .int .i64 a6, .int .i64 a7] w fun e w' => e = .returned (.bool true) ∧ Below w.heap.size w w' := by
  obtain ⟨l2, u2⟩ := i64_range w2
  obtain ⟨l4, u4⟩ := i64_range w4
  obtain ⟨l6, u6⟩ := i64_range w6
  obtain ⟨l7, u7⟩ := i64_range w7
  obtain ⟨p, hps, hpd, e0⟩ := digits_ok a0 4 (by decide) s0 1000 (by decide)
  obtain ⟨m, hm, e2⟩ := pick_ok a2 7 (by decide) l2 u2
  obtain ⟨pan, hqs, hqd, e1⟩ := digits_ok a1 (13 + m) (by omega) s1 1000 (by omega)
  obtain ⟨key, hk, e3⟩ := fit_ok a3 16 (by decide) s3 1000 (by decide)
  obtain ⟨x, hx, e4⟩ := pick_ok a4 6 (by decide) l4 u4
  obtain ⟨y, hy, e6⟩ := pick_ok a6 9 (by decide) l6 u6
  obtain ⟨t, hts, htd, e5⟩ := digits_ok a5 y (by omega) s5 1000 (by omega)
  obtain ⟨z, hz, e7⟩ := pick_ok a7 10 (by decide) l7 u7
  have hS : (strOfNums [48 + (z : Int)]).size = 1 := by rw [strOfNums_size]; rfl
  have hPA := ext_len pan 0 (12 + m) (by omega)
  have hPD := ext_len pan (1 + m) (13 + m) (by omega)
  have h7 : ∀ c ∈ bl (⟨#[55]⟩ : ByteArray), isDig c = true := by decide
  have d1 : digB (bl pan) 13 19 = true := digits_digB hqs hqd 13 19 (by omega) (by omega)
  have d2 : digB (bl p) 4 12 = true := digits_digB hps hpd 4 12 (by omega) (by omega)
  have d3 : digB (bl (p ++ t)) 4 12 = true := digits_digB (n := 4 + y) (by rw [ba_append_size, hps, hts]) (app_dig hpd htd) 4 12 (by omega) (by omega)
  have d4 : digB (bl (pan.extract 0 (12 + m) ++ strOfNums [48 + (z : Int)])) 13 19 = true := digits_digB (n := 13 + m) (by rw [ba_append_size, hPA, hS]; omega) (app_dig (ext_dig hqd _ _) (last_ok z hz)) 13 19 (by omega) (by omega)
  have d5 : digB (bl ((⟨#[55]⟩ : ByteArray) ++ pan.extract (1 + m) (13 + m))) 13 19 = true := digits_digB (n := 13) (by rw [ba_append_size, hPD]; show 1 + _ = 13; omega) (app_dig h7 (ext_dig hqd _ _)) 13 19 (by omega) (by omega)
  have hI := index_ok x hx
  have e13m : ((13 + m : Nat) : Int) = 13 + (m : Int) := by omega
  have e12 : 13 + (m : Int) - 1 = ((12 + m : Nat) : Int) := by omega
  have e1m : 13 + (m : Int) - 12 = ((1 + m : Nat) : Int) := by omega
  refine pv_walk a0 a1 a2 a3 a4 a5 a6 a7 m x y z p pan key (strOfNums [49 + (x : Int)]) t (strOfNums [48 + (z : Int)]) (pan.extract 0 (12 + m)) (pan.extract (1 + m) (13 + m)) (valR key pan (strOfNums [49 + (x : Int)]) p) w
    (Lib.hid fun w => turnstilelaw6_known.calls 1000 true w (lawknown_eq 1000 (by omega)))
    (Lib.hid fun w => turnstilelaw6_digits.calls 1000 a0 4 p w e0)
    (Lib.hid fun w => (turnstilelaw6_pick.calls a2 7 (m : Int) w e2).mono fun e w' h => ⟨h.1, drawn_below' h.2⟩)
    (Lib.hid fun w => ?_)
    (Lib.hid fun w => turnstilelaw6_fit.calls 1000 a3 16 key w e3)
    (Lib.hid fun w => (turnstilelaw6_pick.calls a4 6 (x : Int) w e4).mono fun e w' h => ⟨h.1, drawn_below' h.2⟩)
    (Lib.hid fun w => val_walk key pan _ p w hk d1 d2 hI)
    (Lib.hid fun w => (turnstilelaw6_pick.calls a6 9 (y : Int) w e6).mono fun e w' h => ⟨h.1, drawn_below' h.2⟩)
    (Lib.hid fun w => turnstilelaw6_digits.calls 1000 a5 (y : Int) t w e5)
    (Lib.hid fun w => ?_)
    (Lib.hid fun w => turnstilelaw6_pick.calls a7 10 (z : Int) w e7)
    (Lib.hid fun w => ?_)
    (Lib.hid fun w => ?_)
    (Lib.hid fun w => (turnstilelaw6_number.calls 1000 _ true w (lnumber_ok _ (by rw [valR_size]; decide) (valR_dig _ _ _ _) 1000 (by rw [valR_size]; decide))).mono fun e w' h => ⟨h.1, drawn_below' h.2⟩)
    hm hx hz (fun W => conv1 W _) (fun W n => conv1n W n _) (fun W => ?_) (fun W => ?_) (by omega) (by omega) (by omega) (by rw [valR_size]; rfl)
  · rw [← e13m]
    exact turnstilelaw6_digits.calls 1000 a1 _ pan w e1
  · have h := val_walk key pan _ (p ++ t) w hk d1 d3 hI
    rwa [valR_congr (inPin pan _ p t hps)] at h
  · have h := val_walk key _ _ p w hk d4 d2 hI
    rwa [valR_congr (inPan1 pan _ p _ m hqs hS)] at h
  · have h := val_walk key _ _ p w hk d5 d2 hI
    rwa [valR_congr (inPan2 pan _ p m hqs)] at h
  · rw [e12]
    exact slice_to pan (12 + m) (by omega) W
  · rw [e1m]
    have h := slice_from pan (1 + m) (by omega) W
    rwa [hqs] at h
end Go.Proofs.YtkjjdodnkcmeiaaDoor.PX
