/- The walk of pin.Value, and what it answers, as a plain Lean function. -/
import Derived.Test.YtkjjdodnkcmeiaaDoorSeal
namespace Go.Proofs.YtkjjdodnkcmeiaaDoor.PX
open Go.RowKit Go.Proofs.YtkjjdodnkcmeiaaDoorW.PrintWords Go.Proofs.YtkjjdodnkcmeiaaDoorW.PrintLast Go.Proofs.YtkjjdodnkcmeiaaDoorW.PrintMore

theorem c33w (W W' : World) (l : List ByteArray) (n : Nat) (hl : l.length = n) (hn : n ≤ 1000) (ht : (l.map bl).flatten.length ≤ 1000) (hW : W'.heap[W.heap.size]? = some (.cells (l.map Value.string).toArray 9 (0, 0))) :
    Calls Tryd.prog 33 #[.slice (some ⟨W.heap.size, 0, none⟩) n n] W' fun e w' => e = .returned (.string ⟨(l.map bl).flatten.toArray⟩) ∧ Below W'.heap.size W' w' := by
  have h := pin_joined.calls (some ⟨W.heap.size, 0, none⟩) n l _ W' ?_ (by omega) (joined_eq l (by omega) (by omega))
  · rw [hl] at h
    exact h
  · refine ⟨rfl, by omega, fun _ => ⟨_, rfl, fun j p hj => ⟨[.string p], rfl, rfl, fun i u hu => ?_⟩⟩⟩
    have hi : i = 0 := by
      rcases i with _ | i
      · rfl
      · simp at hu
    subst hi
    have hu' : u = .string p := by simpa using hu.symm
    subst hu'
    refine World.news_of_block (cs := (l.map Value.string).toArray) (t := 9) (fr := (0, 0)) (w := W') hW (j * Kd.string.sz + 0) (.string p) ?_
    rw [show Kd.string.sz = 1 from rfl]
    simp [hj]
theorem c33v (W : World) (a b c : ByteArray) (ht : a.size + b.size + c.size ≤ 1000) :
    Calls Tryd.prog 33 #[.slice (some ⟨W.heap.size, 0, none⟩) 3 3] ((W.alloc (.cells #[.string a, .string b, .string c] 9)).drew) fun e w' => e = .returned (.string ⟨(bl a ++ (bl b ++ bl c)).toArray⟩) ∧ Below W.heap.size W w' := by
  have h := c33w W ((W.alloc (.cells #[.string a, .string b, .string c] 9)).drew) [a, b, c] 3 rfl (by decide) (by simp [bl_length]; omega) (heap_alloc_new W _)
  simp only [List.map_cons, List.map_nil, List.flatten_cons, List.flatten_nil, List.append_nil] at h
  refine h.mono ?_
  rintro e w' ⟨rfl, hb⟩
  exact ⟨rfl, below_box hb⟩
theorem c33u (W : World) (a b : ByteArray) (ht : a.size + b.size ≤ 1000) :
    Calls Tryd.prog 33 #[.slice (some ⟨W.heap.size, 0, none⟩) 2 2] (W.alloc (.cells #[.string a, .string b] 9)) fun e w' => e = .returned (.string ⟨(bl a ++ bl b).toArray⟩) ∧ Below W.heap.size W w' := by
  have h := c33w W (W.alloc (.cells #[.string a, .string b] 9)) [a, b] 2 rfl (by decide) (by simp [bl_length]; omega) (heap_alloc_new W _)
  simp only [List.map_cons, List.map_nil, List.flatten_cons, List.flatten_nil, List.append_nil] at h
  refine h.mono ?_
  rintro e w' ⟨rfl, hb⟩
  exact ⟨rfl, (below_box1 W _).trans (hb.mono (below_box1 W _).size)⟩
theorem c31v (s : ByteArray) (hs : s.size ≤ 140737488355328) (w : World) : Calls Tryd.prog 31 #[.string s, .string ((⟨#[48, 49, 50, 51, 52, 53, 54, 55, 56, 57, 65, 66, 67, 68, 69, 70]⟩ : ByteArray).extract 1 7), .int .i64 1, .int .i64 1] w fun e w' => e = .returned (.bool (withinB (bl s) (bl (sgnB.extract 1 7)) 1 1)) ∧ Below w.heap.size w w' := by
  refine (pin_within.calls (s.size + 1) s (sgnB.extract 1 7) 1 1 (withinB (bl s) (bl (sgnB.extract 1 7)) 1 1) w (within_eq s (sgnB.extract 1 7) 1 1 hs _ (by omega))).mono ?_
  rintro e w' ⟨rfl, ⟨m, rfl⟩⟩
  exact ⟨rfl, below_drewN2 _ _ _⟩
theorem slice_to (s : ByteArray) (b : Nat) (hb : b ≤ s.size) (W : World) : (Instr.slice 9 (.string s) none (some (.int .i64 (b : Int))) none).run Tryd.prog W = .ok (.string (s.extract 0 b)) W := by
  have h1 : (b : Int) ≤ s.size := by omega
  have h0 : (0 : Int) ≤ b := by omega
  go_simp
def valIn (pan index pin : ByteArray) : List UInt8 := bl (pan.extract (pan.size - 12) (pan.size - 1)) ++ (bl index ++ bl (pin.extract 0 4))
def valMid (pan index pin : ByteArray) : ByteArray := ⟨(packL ((valIn pan index pin).map nib)).toArray⟩
def valU (key pan index pin : ByteArray) : ByteArray := ⟨(unpackL (sealN (kOne key) (kTwo key) (valMid pan index pin) false).data.toList).toArray⟩
theorem valIn_len (pan index pin : ByteArray) (h1 : digB (bl pan) 13 19 = true) (h2 : digB (bl pin) 4 12 = true) (h3 : withinB (bl index) (bl (sgnB.extract 1 7)) 1 1 = true) : (valIn pan index pin).length = 16 ∧ ∀ c ∈ valIn pan index pin, isSgn c = true := by
  obtain ⟨l1, l2, l3⟩ := digB_len h1
  obtain ⟨m1, m2, m3⟩ := digB_len h2
  unfold withinB at h3
  rw [Bool.and_eq_true, Bool.and_eq_true, decide_eq_true_eq, decide_eq_true_eq, List.all_eq_true] at h3
  obtain ⟨⟨q1, q2⟩, q3⟩ := h3
  rw [bl_length] at l1 l2 m1 m2
  have hx : ∀ n : Fin 256, (bl (sgnB.extract 1 7)).contains (UInt8.ofNat n.1) = true → isSgn (UInt8.ofNat n.1) = true := by decide +kernel
  unfold valIn
  constructor
  · rw [List.length_append, List.length_append, bl_extract, bl_extract, List.extract_eq_take_drop, List.extract_eq_take_drop, List.length_take, List.length_drop, List.length_take, List.length_drop]
    simp only [bl_length] at q2 q3 ⊢
    omega
  · intro c hc
    rcases List.mem_append.1 hc with h | h
    · rw [bl_extract, List.extract_eq_take_drop] at h
      exact dig_sgn c (l3 c (List.mem_of_mem_drop (List.mem_of_mem_take h)))
    · rcases List.mem_append.1 h with h | h
      · have := q1 c h
        have h2 := hx ⟨c.toNat, c.toNat_lt⟩
        simp only [UInt8.ofNat_toNat] at h2
        exact h2 this
      · rw [bl_extract, List.extract_eq_take_drop] at h
        exact dig_sgn c (m3 c (List.mem_of_mem_drop (List.mem_of_mem_take h)))
theorem conv1 (W : World) (v : Int) : (convert 40 9 (.slice (some ⟨W.heap.size, 0, none⟩) 1 1)).run Tryd.prog (W.alloc (.cells #[.int .u8 v] 5)) = .ok (.string (strOfNums [v])) (W.alloc (.cells #[.int .u8 v] 5)) := by
  refine run_convert_bytes_arg (P := Tryd.prog) (W.alloc (.cells #[.int .u8 v] 5)) 40 5 Tryd.underlying40 Tryd.underlying5 W.heap.size 0 1 1 [v] rfl (fun i hi => ?_) 9 Tryd.underlying9
  obtain rfl : i = 0 := by omega
  rw [cell_of_row (W.alloc (.cells #[.int .u8 v] 5)) W.heap.size (0 + 0) #[.int .u8 v] 5 (0, 0) (heap_alloc_new W _)]
  rfl
def lowL (l : List UInt8) : List UInt8 := l.filter fun c => decide (c.toNat ≤ 57)
def highL (l : List UInt8) : List UInt8 := (l.filter fun c => !decide (c.toNat ≤ 57)).map fun c => UInt8.ofNat (c.toNat + 239)
theorem unpackL_len (l : List UInt8) : (unpackL l).length = 2 * l.length := by
  induction l with
  | nil => rfl
  | cons c l ih => simp [unpackL] at ih ⊢; omega
theorem valU_size (key pan index pin : ByteArray) : (valU key pan index pin).size = 16 := by
  unfold valU
  rw [size_mk (unpackL _), unpackL_len]
  have := sealN_size (kOne key) (kTwo key) (valMid pan index pin) false
  rw [← bl_length] at this
  show 2 * (bl _).length = 16
  omega
theorem low_small (l : List UInt8) (i : Nat) (hi : i < 16) (v : Int) : (⟨(lowL (l.take i)).toArray⟩ : ByteArray).size + (strOfNums [v]).size ≤ 9223372036854775807 := by
  have h1 : (lowL (l.take i)).length ≤ (l.take i).length := List.length_filter_le _ _
  rw [List.length_take] at h1
  rw [size_mk (lowL _), strOfNums_size]
  simp
  omega
theorem high_small (l : List UInt8) (i : Nat) (hi : i < 16) (v : Int) : (⟨(highL (l.take i)).toArray⟩ : ByteArray).size + (strOfNums [v]).size ≤ 9223372036854775807 := by
  have h1 : (highL (l.take i)).length ≤ (l.take i).length := by unfold highL; rw [List.length_map]; exact List.length_filter_le _ _
  rw [List.length_take] at h1
  rw [size_mk (highL _), strOfNums_size]
  simp
  omega
theorem low_next (l : List UInt8) (i : Nat) (c : UInt8) (h : l.take (i + 1) = l.take i ++ [c]) (hc : c.toNat ≤ 57) : (⟨(lowL (l.take (i + 1))).toArray⟩ : ByteArray) = ⟨(lowL (l.take i)).toArray⟩ ++ strOfNums [(c.toNat : Int)] := by
  apply bl_ext
  rw [h]
  simp [lowL, bl, strOfNums, hc, ByteArray.data_append]
theorem high_same (l : List UInt8) (i : Nat) (c : UInt8) (h : l.take (i + 1) = l.take i ++ [c]) (hc : c.toNat ≤ 57) : (⟨(highL (l.take (i + 1))).toArray⟩ : ByteArray) = ⟨(highL (l.take i)).toArray⟩ := by
  rw [h]
  simp [highL, hc]
theorem high_next (l : List UInt8) (i : Nat) (c : UInt8) (h : l.take (i + 1) = l.take i ++ [c]) (hc : ¬ c.toNat ≤ 57) (v : Int) (hv : v = ((UInt8.ofNat (c.toNat + 239)).toNat : Int)) : (⟨(highL (l.take (i + 1))).toArray⟩ : ByteArray) = ⟨(highL (l.take i)).toArray⟩ ++ strOfNums [v] := by
  subst hv
  apply bl_ext
  rw [h]
  have e : ∀ x : UInt8, strOfNums [(x.toNat : Int)] = ⟨#[x]⟩ := fun x => by simp [strOfNums]
  rw [e]
  simp [highL, bl, hc, ByteArray.data_append]
theorem low_same (l : List UInt8) (i : Nat) (c : UInt8) (h : l.take (i + 1) = l.take i ++ [c]) (hc : ¬ c.toNat ≤ 57) : (⟨(lowL (l.take (i + 1))).toArray⟩ : ByteArray) = ⟨(lowL (l.take i)).toArray⟩ := by
  rw [h]
  simp [lowL, hc]
theorem unpackL_high (l : List UInt8) (c : UInt8) (h : c ∈ unpackL l) (hc : ¬ c.toNat ≤ 57) : 65 ≤ c.toNat := by
  unfold unpackL at h
  obtain ⟨x, hx, h⟩ := List.mem_flatMap.1 h
  have hn : ∀ n : Fin 16, (signAt n.1).toNat ≤ 57 ∨ 65 ≤ (signAt n.1).toNat := by decide +kernel
  have hlt := x.toNat_lt
  have h1 := hn ⟨x.toNat / 16, by omega⟩
  have h2 := hn ⟨x.toNat % 16, by omega⟩
  simp only [List.mem_cons, List.not_mem_nil, or_false] at h
  rcases h with rfl | rfl
  · exact h1.resolve_left hc
  · exact h2.resolve_left hc
theorem low_high (l : List UInt8) : (lowL l).length + (highL l).length = l.length := by
  unfold lowL highL
  rw [List.length_map]
  induction l with
  | nil => rfl
  | cons c l ih => by_cases h : c.toNat ≤ 57 <;> simp [h] at ih ⊢ <;> omega
def valR (key pan index pin : ByteArray) : ByteArray := ⟨((lowL (bl (valU key pan index pin)) ++ highL (bl (valU key pan index pin))).take 4).toArray⟩
theorem valR_of (u : List UInt8) (L H : ByteArray) (hL : (⟨(lowL u).toArray⟩ : ByteArray) = L) (hH : (⟨(highL u).toArray⟩ : ByteArray) = H) : (⟨((lowL u ++ highL u).take 4).toArray⟩ : ByteArray) = ByteArray.extract ⟨(bl L ++ bl H).toArray⟩ 0 4 := by
  subst hL hH
  apply bl_ext
  rw [bl_extract, List.extract_eq_take_drop]
  simp [bl]
theorem valR_eq (key pan index pin L H : ByteArray) (hL : (⟨(lowL (bl (valU key pan index pin))).toArray⟩ : ByteArray) = L) (hH : (⟨(highL (bl (valU key pan index pin))).toArray⟩ : ByteArray) = H) : valR key pan index pin = ByteArray.extract ⟨(bl L ++ bl H).toArray⟩ 0 4 := by
  unfold valR
  exact valR_of _ L H hL hH
set_option maxRecDepth 100000 in
set_option maxHeartbeats 8000000 in
theorem val_walk (key pan index pin : ByteArray) (w : World) (hk : key.size = 16) (h1 : digB (bl pan) 13 19 = true) (h2 : digB (bl pin) 4 12 = true) (h3 : withinB (bl index) (bl (sgnB.extract 1 7)) 1 1 = true) :
    Calls Tryd.prog 20 #[.string key, .string pan, .string index, .string pin] w fun e w' => e = .returned (.tuple #[.string (valR key pan index pin), .int .i64 0]) ∧ Below w.heap.size w w' := by
  obtain ⟨v1, v2⟩ := valIn_len pan index pin h1 h2 h3
  obtain ⟨l1, l2, l3⟩ := digB_len h1
  obtain ⟨m1, m2, m3⟩ := digB_len h2
  rw [bl_length] at l1 l2 m1 m2
  have hi : index.size = 1 := by
    unfold withinB at h3
    rw [Bool.and_eq_true, Bool.and_eq_true, decide_eq_true_eq, decide_eq_true_eq, bl_length] at h3
    omega
  have C45 := Lib.hid (c45 key hk)
  have C29 := Lib.hid (c29 pan (by omega) · true h1)
  have C28 := Lib.hid (c28 pin (by omega) · true h2)
  have C31 := Lib.hid (c31v index (by omega))
  rw [h3] at C31
  have c33' : ∀ W : World, Calls Tryd.prog 33 #[.slice (some ⟨W.heap.size, 0, none⟩) 3 3] ((W.alloc (.cells #[.string (pan.extract (pan.size - 12) (pan.size - 1)), .string index, .string (pin.extract 0 4)] 9)).drew) fun e w' => e = .returned (.string ⟨(valIn pan index pin).toArray⟩) ∧ Below W.heap.size W w' :=
    fun W => c33v W (pan.extract (pan.size - 12) (pan.size - 1)) index (pin.extract 0 4) (by
    have a1 : (pan.extract (pan.size - 12) (pan.size - 1)).size ≤ 19 := by rw [← bl_length, bl_extract, List.extract_eq_take_drop, List.length_take]; omega
    have a2 : (pin.extract 0 4).size ≤ 4 := by rw [← bl_length, bl_extract, List.extract_eq_take_drop, List.length_take]; omega
    omega)
  have c32' : ∀ w : World, Calls Tryd.prog 32 #[.string ⟨(valIn pan index pin).toArray⟩] w fun e w' => e = .returned (.string (valMid pan index pin)) ∧ Below w.heap.size w w' := fun w => c32 w (valIn pan index pin) (by omega) v2
  have c42' : ∀ w : World, Calls Tryd.prog 42 #[.string (sealN (kOne key) (kTwo key) (valMid pan index pin) false)] w fun e w' => e = .returned (.string (valU key pan index pin)) ∧ Below w.heap.size w w' :=
    fun w => unpacked_walk _ w (by rw [sealN_size]; decide)
  have C42 := Lib.hid c42'
  clear c42'
  have C33 := Lib.hid c33'
  have C32 := Lib.hid c32'
  clear c33' c32'
  have hmid : (valMid pan index pin).size = 8 := by
    unfold valMid
    rw [size_mk (packL _), packL_length, List.length_map, v1]
  have C25 := Lib.hid (fun g w (h : KeyAt w g (kOne key) (kTwo key)) => c25 g (kOne key) (kTwo key) (kOne_lt key) (kTwo_lt key) (valMid pan index pin) hmid w h)
  have q12 : IntKind.i64.wrap ((pan.size : Int) - 12) = ((pan.size - 12 : Nat) : Int) := by rw [IntKind.wrap_i64]; omega
  have q1 : IntKind.i64.wrap ((pan.size : Int) - 1) = ((pan.size - 1 : Nat) : Int) := by rw [IntKind.wrap_i64]; omega
  have sl1 := fun W => slice_of pan (pan.size - 12) (pan.size - 1) (by omega) (by omega) W
  have sl2 : (4 : Int) ≤ (pin.size : Int) := by omega
  have w4 : IntKind.i64.wrap 4 = 4 := by decide
  have w12 : IntKind.i64.wrap 12 = 12 := by decide
  have w1 : IntKind.i64.wrap 1 = 1 := by decide
  clear h1 h2 h3 v1 v2 l3 m3
  go_enter Tryd.func20, Tryd.ntmps20
  have HB := Lib.hid (Below.refl w.heap.size w)
  go_wp2_with (first
    | (go_at_call 45; (with_reducible refine (C45.out _).mono ?_); rintro e w45 ⟨g, rfl, hK, hb⟩; have HK := Lib.hid hK; clear hK; have n0 := Lib.hid (below_next HB.out hb); clear HB hb; have HB := n0; clear n0)
    | (go_at_call 29; (with_reducible refine (C29.out _).mono ?_); rintro e w' ⟨n29, rfl, rfl⟩)
    | (go_at_call 28; (with_reducible refine (C28.out _).mono ?_); rintro e w' ⟨n28, rfl, rfl⟩)
    | (go_at_call 31; (with_reducible refine (C31.out _).mono ?_); rintro e w31 ⟨rfl, hb⟩; have HB31 := Lib.hid hb; clear hb))
  have n0 := Lib.hid (HB.out)
  go_region_law (first
    | (go_simp; go_at_call 33; (with_reducible refine (C33.out _).mono ?_); rintro e w33 ⟨rfl, hb33⟩; have HB33 := Lib.hid hb33; clear hb33)
    | (go_simp; go_at_call 32; (with_reducible refine (C32.out _).mono ?_); rintro e w32 ⟨rfl, hb32⟩; have HB32 := Lib.hid hb32; clear hb32)
    | (go_simp; go_at_call 25; (with_reducible refine (C25.out _ _ (HK.out.below (below_next (below_next (below_next (below_drewN2 _ _ _) HB31.out) HB33.out) HB32.out))).mono ?_); rintro e w25 ⟨rfl, hb25⟩; have HB25 := Lib.hid hb25; clear hb25))
  have kb := fun W => print_bytes (P := Tryd.prog) 9 40 5 Tryd.underlying9 Tryd.underlying40 Tryd.underlying5 (valU key pan index pin) W
  go_wp2_with (first
    | (go_at_call 42; (with_reducible refine (C42.out _).mono ?_); rintro e w42 ⟨rfl, hb42⟩; have HB42 := Lib.hid hb42; clear hb42))
  have hU := valU_size key pan index pin
  have hcell := fun j hj => Lib.bytesWorld_cell w42 5 (valU key pan index pin) j hj
  have hsz := Lib.hid (bytes_below (Below.refl w42.heap.size w42) (Nat.le_refl _) 5 (valU key pan index pin))
  have hlt0 : w42.heap.size < (Lib.bytesWorld w42 5 (valU key pan index pin)).heap.size := by
    have := Lib.bytesWorld_at_new w42 5 (valU key pan index pin)
    exact (Array.getElem?_eq_some_iff.1 this).1
  have HLT := Lib.hid hlt0
  have HU := Lib.hid hU
  clear hlt0 kb
  generalize hW0 : Lib.bytesWorld w42 5 (valU key pan index pin) = W0 at *
  have HC := Lib.hid hcell
  clear hcell hW0 hU
  go_loopg [14, 15, 63] 16 (fun kq v14 v15 v63 w' => ∃ i : Nat, i + kq = 16 ∧ v14 = .string ⟨(lowL ((bl (valU key pan index pin)).take i)).toArray⟩ ∧ v15 = .string ⟨(highL ((bl (valU key pan index pin)).take i)).toArray⟩ ∧ v63 = .int .i64 (i : Int) ∧ Hid (Below W0.heap.size W0 w'))
  case atStart => exact ⟨0, rfl, rfl, rfl, rfl, Lib.hid (Below.refl _ _)⟩
  case round =>
    obtain ⟨i, hi16, rfl, rfl, rfl, HW⟩ := hrel
    by_cases h16 : i < 16
    · have hlt : decide ((i : Int) < 16) = true := decide_eq_true (by omega)
      have hc : wr.cell? ⟨w42.heap.size, i, none⟩ = some (.int .u8 (((valU key pan index pin).data.toList.getD i 0).toNat)) := by
        rw [HW.out.cell HLT.out]
        exact HC.out i (by rw [HU.out]; exact h16)
      generalize hcc : (valU key pan index pin).data.toList.getD i 0 = c at hc
      have hbl : (bl (valU key pan index pin)).take (i + 1) = (bl (valU key pan index pin)).take i ++ [c] := by
        have hp : i < (bl (valU key pan index pin)).length := by rw [bl_length, HU.out]; exact h16
        rw [List.take_succ_eq_append_getElem hp]
        congr 2
        rw [← hcc]
        show _ = (bl (valU key pan index pin)).getD i 0
        rw [List.getD_eq_getElem?_getD, List.getElem?_eq_getElem hp]
        rfl
      have HB2 := Lib.hid (fun o => (HW.out.alloc HW.out.size o : Below W0.heap.size W0 (wr.alloc o)))
      have HBL := Lib.hid hbl
      clear hbl hcc
      by_cases h57 : c.toNat ≤ 57
      · have hd57 : decide ((c.toNat : Int) ≤ 57) = true := decide_eq_true (by omega)
        have big := low_small (bl (valU key pan index pin)) i h16 (c.toNat : Int)
        obtain ⟨S, hS⟩ : ∃ S : ByteArray, S = strOfNums [(c.toNat : Int)] := ⟨_, rfl⟩
        have kc : ∀ W : World, (convert 40 9 (.slice (some ⟨W.heap.size, 0, none⟩) 1 1)).run Tryd.prog (W.alloc (.cells #[.int .u8 (c.toNat : Int)] 5)) = .ok (.string S) (W.alloc (.cells #[.int .u8 (c.toNat : Int)] 5)) := fun W => by rw [hS]; exact conv1 W _
        rw [← hS] at big
        have HS := Lib.hid hS
        clear hS
        generalize hL : (⟨(lowL ((bl (valU key pan index pin)).take i)).toArray⟩ : ByteArray) = L at *
        have HL := Lib.hid hL
        clear hL
        have b1 := decide_eq_true big
        have b2 : (9223372036854775807 < L.size + S.size) = False := eq_false (Nat.not_lt.2 big)
        clear big
        go_wp2
        go_roundg (gk - 1)
        case measure => omega
        case rel => exact ⟨i + 1, by omega, by rw [low_next _ _ c HBL.out h57, HL.out, HS.out], by rw [high_same _ _ c HBL.out h57], rfl, Lib.hid (HB2.out _)⟩
      · have hd57 : decide ((c.toNat : Int) ≤ 57) = false := decide_eq_false (by omega)
        have hc65 : 65 ≤ (c.toNat : Int) := by
          have hm : c ∈ bl (valU key pan index pin) := by
            have : c ∈ (bl (valU key pan index pin)).take (i + 1) := by rw [HBL.out]; simp
            exact List.mem_of_mem_take this
          have := unpackL_high _ c hm h57
          omega
        have hlc := c.toNat_lt
        have big := high_small (bl (valU key pan index pin)) i h16 ((c.toNat : Int) - 65 + 48)
        obtain ⟨S, hS⟩ : ∃ S : ByteArray, S = strOfNums [(c.toNat : Int) - 65 + 48] := ⟨_, rfl⟩
        have kc : ∀ W : World, (convert 40 9 (.slice (some ⟨W.heap.size, 0, none⟩) 1 1)).run Tryd.prog (W.alloc (.cells #[.int .u8 ((c.toNat : Int) - 65 + 48)] 5)) = .ok (.string S) (W.alloc (.cells #[.int .u8 ((c.toNat : Int) - 65 + 48)] 5)) := fun W => by rw [hS]; exact conv1 W _
        rw [← hS] at big
        have HS := Lib.hid hS
        clear hS
        generalize hL : (⟨(highL ((bl (valU key pan index pin)).take i)).toArray⟩ : ByteArray) = L at *
        have HL := Lib.hid hL
        clear hL
        have b1 := decide_eq_true big
        have b2 : (9223372036854775807 < L.size + S.size) = False := eq_false (Nat.not_lt.2 big)
        clear big
        go_wp2
        go_roundg (gk - 1)
        case measure => omega
        case rel => exact ⟨i + 1, by omega, by rw [low_same _ _ c HBL.out h57], by rw [high_next _ _ c HBL.out h57 ((c.toNat : Int) - 65 + 48) (by rw [UInt8.toNat_ofNat']; omega), HL.out, HS.out], rfl, Lib.hid (HB2.out _)⟩
    · obtain rfl : i = 16 := by omega
      have hlt : decide (((16 : Nat) : Int) < 16) = false := by decide
      generalize hL : (⟨(lowL ((bl (valU key pan index pin)).take 16)).toArray⟩ : ByteArray) = L at *
      generalize hH : (⟨(highL ((bl (valU key pan index pin)).take 16)).toArray⟩ : ByteArray) = H at *
      have h16 : (bl (valU key pan index pin)).take 16 = bl (valU key pan index pin) := List.take_of_length_le (by rw [bl_length, HU.out]; exact Nat.le_refl _)
      rw [h16] at hL hH
      have hlh := low_high (bl (valU key pan index pin))
      have hsz : L.size + H.size = 16 := by
        rw [← hL, ← hH, size_mk (lowL _), size_mk (highL _), hlh, bl_length, HU.out]
      have C33b := Lib.hid fun W : World => c33u W L H (by omega)
      have hR := valR_eq key pan index pin L H hL hH
      have HR := Lib.hid hR
      have hz4 : (4 : Int) ≤ ((⟨(bl L ++ bl H).toArray⟩ : ByteArray).size : Int) := by
        rw [size_mk, List.length_append, bl_length, bl_length, hsz]
        decide
      clear hR hlh hL hH h16 hsz
      generalize hT : (⟨(bl L ++ bl H).toArray⟩ : ByteArray) = T at *
      go_wp2_with (first
        | (go_at_call 33; (with_reducible refine (C33b.out _).mono ?_); rintro e w33' ⟨rfl, hb33⟩; have HB33b := Lib.hid hb33; clear hb33))
      go_ret2
      have e1 : Ending.returned (.tuple #[.string (T.extract 0 4), .int .i64 0]) = Ending.returned (.tuple #[.string (valR key pan index pin), .int .i64 0]) := by rw [HR.out]
      refine ⟨e1, below_next (below_next (below_next (below_next (below_next (below_next (below_next (below_next (below_next n0.out (below_drewN2 _ _ _)) HB31.out) HB33.out) HB32.out) HB25.out) HB42.out) hsz.out) HW.out) HB33b.out⟩
end Go.Proofs.YtkjjdodnkcmeiaaDoor.PX
