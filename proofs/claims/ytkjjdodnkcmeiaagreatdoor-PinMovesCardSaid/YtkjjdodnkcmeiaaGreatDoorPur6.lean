/- Open and Block as plain functions: Open takes back what Block has laid, and Block lays again what Open has read. -/
import Derived.Test.YtkjjdodnkcmeiaaGreatDoorPur1
import Derived.Test.YtkjjdodnkcmeiaaGreatDoorBlock
import Derived.Test.YtkjjdodnkcmeiaaGreatDoorPX5
namespace Go.Proofs.YtkjjdodnkcmeiaaGreatDoor.PX
open Go.RowKit Go.Proofs.YtkjjdodnkcmeiaaGreatDoorW.PrintWords Go.Proofs.YtkjjdodnkcmeiaaGreatDoorW.PrintLast Go.Proofs.YtkjjdodnkcmeiaaGreatDoorW.PrintMore
def knownB (a : Int) : Bool := decide (a = 0 ∨ a = 1 ∨ a = 3)
theorem getD_mem {α : Type} (l : List α) (i : Nat) (d : α) (h : i < l.length) : l.getD i d ∈ l := by
  rw [List.getD_eq_getElem?_getD, List.getElem?_eq_getElem h]
  exact List.getElem_mem _
theorem drop_getD {α : Type} (l : List α) (i : Nat) (d : α) (h : i < l.length) : l.drop i = l.getD i d :: l.drop (i + 1) := by
  rw [List.getD_eq_getElem?_getD, List.getElem?_eq_getElem h]
  exact List.drop_eq_getElem_cons h
theorem wrap_succ {i : Nat} (h : i ≤ 140737488355328) : wrap64 ((i : Int) + 1) = ((i + 1 : Nat) : Int) := by rw [wrap_in (by omega) (by omega)]; omega

/-- May a character stand in a filling of that format? -/
def okFill (a0 : Int) (c : UInt8) : Bool := isSgn c && (decide (a0 ≠ 3) || decide (10 ≤ nib c))
theorem index_cases (c : UInt8) : (isSgn c = true ∧ Lib.indexByte (bl sgnB) c = (nib c : Int) ∧ nib c < 16) ∨ (isSgn c = false ∧ Lib.indexByte (bl sgnB) c < 0) := by
  cases h : isSgn c with
  | true => exact .inl ⟨rfl, (nib_lt c h).2, (nib_lt c h).1⟩
  | false => exact .inr ⟨rfl, (index_neg _ _).2 (by unfold isSgn at h; rw [h]; simp)⟩
def filledB (a0 : Int) (s : ByteArray) (want : Int) : Bool := if a0 = 0 then decide (s.size = 0) else (bl s).all (okFill a0) && decide ((s.size : Int) = want)
theorem toList_nil (a : ByteArray) : (a.toList == ([] : List UInt8)) = decide (a.size = 0) := by
  rw [ByteArray.toList_eq, show a.data.toList = bl a from rfl, ← bl_length]
  cases bl a with
  | nil => rfl
  | cons x l => simp
def natI (l : List Nat) : List Int := l.map fun (n : Nat) => (n : Int)
theorem natI_length (l : List Nat) : (natI l).length = l.length := by simp [natI]
theorem rd_natI (l : List Nat) (i : Nat) : rd (natI l) (i : Int) = ((l.getD i 0 : Nat) : Int) := by
  unfold rd natI
  rw [Int.toNat_natCast, List.getD_eq_getElem?_getD, List.getElem?_map, List.getD_eq_getElem?_getD]
  cases l[i]? <;> rfl
theorem packL_drop : ∀ (l : List Nat) (i : Nat), 2 * i + 1 < l.length → packL (l.drop (2 * i)) = byteOf (l.getD (2 * i) 0) (l.getD (2 * i + 1) 0) :: packL (l.drop (2 * (i + 1)))
  | [], i, h => by simp at h
  | [a], i, h => by simp at h
  | a :: b :: l, 0, h => by simp [packL]
  | a :: b :: l, i + 1, h => by
    have := packL_drop l i (by simp at h; omega)
    rw [show 2 * (i + 1) = 2 * i + 1 + 1 by omega, show 2 * (i + 1 + 1) = 2 * (i + 1) + 1 + 1 by omega]
    simp only [List.drop_succ_cons, List.getD_cons_succ]
    exact this
theorem nib_dig (c : UInt8) (h : isDig c = true) : nib c = c.toNat - 48 ∧ 48 ≤ c.toNat ∧ nib c < 10 := by
  have hh : ∀ n : Fin 256, isDig (UInt8.ofNat n.1) = true → nib (UInt8.ofNat n.1) = (UInt8.ofNat n.1).toNat - 48 ∧ 48 ≤ (UInt8.ofNat n.1).toNat ∧ nib (UInt8.ofNat n.1) < 10 := by decide +kernel
  have := hh ⟨c.toNat, c.toNat_lt⟩
  simp only [UInt8.ofNat_toNat] at this
  exact this h
theorem dig_val (c : UInt8) (h : isDig c = true) : wrap64 (wrap64 ((c.toNat : Nat) : Int) - 48) = ((nib c : Nat) : Int) := by
  obtain ⟨h1, h2, _⟩ := nib_dig c h
  have := c.toNat_lt
  rw [wrap_in (x := ((c.toNat : Nat) : Int)) (by omega) (by omega), wrap_in (by omega) (by omega)]
  omega
theorem xor_small (a b : Nat) (ha : a < 16) (hb : b < 16) : Go.bits .xor .i64 (a : Int) (b : Int) = ((a ^^^ b : Nat) : Int) := by
  have h : ∀ (a b : Fin 16), Go.bits .xor .i64 ((a.1 : Nat) : Int) ((b.1 : Nat) : Int) = ((a.1 ^^^ b.1 : Nat) : Int) := by decide +kernel
  exact h ⟨a, ha⟩ ⟨b, hb⟩
def xorN (a b : List Nat) : List Nat := List.zipWith (· ^^^ ·) a b
theorem panL_ok (pan : List UInt8) (h : digB pan 13 19 = true) : (panL pan).length = 16 ∧ ∀ n ∈ panL pan, n < 16 := by
  obtain ⟨l1, l2, l3⟩ := digB_len h
  unfold panL
  refine ⟨by simp; omega, fun n hn => ?_⟩
  rcases List.mem_append.1 hn with hn | hn
  · simp at hn; omega
  · obtain ⟨c, hc, rfl⟩ := List.mem_map.1 hn
    have := (nib_dig c (l3 c (List.mem_of_mem_drop (List.mem_of_mem_take hc)))).2.2
    omega
theorem byteOf_xor (a b c d : Nat) (ha : a < 16) (hb : b < 16) (hc : c < 16) (hd : d < 16) : byteOf (a ^^^ c) (b ^^^ d) = byteOf a b ^^^ byteOf c d := by
  have h1 : ∀ (a b : Fin 16), byteOf a.1 b.1 = byteOf a.1 0 ^^^ byteOf 0 b.1 := by decide +kernel
  have h2 : ∀ (a c : Fin 16), byteOf (a.1 ^^^ c.1) 0 = byteOf a.1 0 ^^^ byteOf c.1 0 := by decide +kernel
  have h3 : ∀ (a c : Fin 16), byteOf 0 (a.1 ^^^ c.1) = byteOf 0 a.1 ^^^ byteOf 0 c.1 := by decide +kernel
  have h4 : ∀ (a c : Fin 16), a.1 ^^^ c.1 < 16 := by decide
  have e1 := h1 ⟨a ^^^ c, h4 ⟨a, ha⟩ ⟨c, hc⟩⟩ ⟨b ^^^ d, h4 ⟨b, hb⟩ ⟨d, hd⟩⟩
  have e2 := h2 ⟨a, ha⟩ ⟨c, hc⟩
  have e3 := h3 ⟨b, hb⟩ ⟨d, hd⟩
  have e4 := h1 ⟨a, ha⟩ ⟨b, hb⟩
  have e5 := h1 ⟨c, hc⟩ ⟨d, hd⟩
  simp only at e1 e2 e3 e4 e5
  rw [e1, e2, e3, e4, e5]
  ac_rfl
theorem packL_xor : ∀ (l p : List Nat), l.length = p.length → (∀ n ∈ l, n < 16) → (∀ n ∈ p, n < 16) → packL (xorN l p) = xorB (packL l) (packL p)
  | [], [], _, _, _ => rfl
  | [a], [c], _, _, _ => rfl
  | a :: b :: l, c :: d :: p, h, h1, h2 => by
    have ih := packL_xor l p (by simpa using h) (fun n hn => h1 n (by simp [hn])) (fun n hn => h2 n (by simp [hn]))
    unfold xorN xorB at *
    simp only [List.zipWith_cons_cons, packL]
    rw [ih, byteOf_xor a b c d (h1 a (by simp)) (h1 b (by simp)) (h2 c (by simp)) (h2 d (by simp))]
  | [], _ :: _, h, _, _ => by simp at h
  | _ :: _, [], h, _, _ => by simp at h
  | [_], _ :: _ :: _, h, _, _ => by simp at h
  | _ :: _ :: _, [_], h, _, _ => by simp at h

theorem blkS_nibs (f : Nat) (pin fill : ByteArray) (hf : f < 16) (hp : pin.size < 16) : (blkS f pin fill).map nib = f :: pin.size :: ((bl pin).map nib ++ (bl fill).map nib) := by
  obtain ⟨c, e1, _, e2⟩ := sgn_at f hf
  obtain ⟨d, g1, _, g2⟩ := sgn_at pin.size hp
  unfold blkS
  simp only [List.map_cons, List.map_nil, List.flatten_cons, List.flatten_nil, List.append_nil, e1, g1, List.map_append, e2, g2]
  rfl

def outR (a0 : Int) (F : List Nat) (a2 : ByteArray) : ByteArray × Int := (mkB (packL (if a0 = 1 then F else xorN F (panL (bl a2)))), 0)
theorem rfill_within (a0 : Int) (a3 : ByteArray) (room : Int) (h0 : a0 ≠ 0) :
    filledB a0 a3 room = withinB (bl a3) (bl (if a0 = 3 then sgnB.extract 10 16 else sgnB)) room room := by
  have hx : ∀ n : Fin 256, (bl (sgnB.extract 10 16)).contains (UInt8.ofNat n.1) = (isSgn (UInt8.ofNat n.1) && decide (10 ≤ nib (UInt8.ofNat n.1))) := by decide +kernel
  have hx' : ∀ c : UInt8, (bl (sgnB.extract 10 16)).contains c = (isSgn c && decide (10 ≤ nib c)) := by
    intro c
    have := hx ⟨c.toNat, c.toNat_lt⟩
    simpa only [UInt8.ofNat_toNat] using this
  unfold filledB withinB
  rw [if_neg h0, bl_length]
  have hd : decide ((a3.size : Int) = room) = (decide (room ≤ (a3.size : Int)) && decide ((a3.size : Int) ≤ room)) := by
    rw [← Bool.decide_and]
    congr 1
    exact propext ⟨fun h => ⟨by omega, by omega⟩, fun h => by omega⟩
  rw [hd, Bool.and_assoc]
  congr 2
  funext c
  by_cases h3 : a0 = 3
  · rw [if_pos h3, hx']
    simp [okFill, h3]
  · rw [if_neg h3]
    simp [okFill, h3, isSgn]
def bsOf (l : List UInt8) : ByteArray := ⟨l.toArray⟩
theorem bl_bsOf (l : List UInt8) : bl (bsOf l) = l := rfl
theorem bsOf_append (a b : List UInt8) : bsOf a ++ bsOf b = bsOf (a ++ b) := by
  apply bl_ext
  simp [bl, bsOf, ByteArray.data_append]
theorem bsOf_size (l : List UInt8) : (bsOf l).size = l.length := size_mk l
/-- The halves of bytes. -/
def halvesN (l : List UInt8) : List Nat := l.flatMap fun c => [c.toNat / 16, c.toNat % 16]
theorem halvesN_lt (l : List UInt8) : ∀ n ∈ halvesN l, n < 16 := by
  intro n hn
  unfold halvesN at hn
  obtain ⟨c, _, hc⟩ := List.mem_flatMap.1 hn
  have := c.toNat_lt
  simp at hc
  omega
theorem halvesN_length (l : List UInt8) : (halvesN l).length = 2 * l.length := by
  induction l with
  | nil => rfl
  | cons c l ih => simp [halvesN] at ih ⊢; omega
/-- May the sixteenth v stand at place i of a block of a PIN of n digits? -/
def okAt (a0 : Int) (n i v : Nat) : Bool := if i < 2 + n then decide (v ≤ 9) else (decide (a0 ≠ 0) || decide (v = 15)) && (decide (a0 ≠ 3) || decide (10 ≤ v))
def okFrom (a0 : Int) (n : Nat) : Nat → List Nat → Bool
  | _, [] => true
  | i, v :: l => okAt a0 n i v && okFrom a0 n (i + 1) l
def digFrom (n : Nat) : Nat → List Nat → List UInt8
  | _, [] => []
  | i, v :: l => if i < 2 + n then UInt8.ofNat (48 + v) :: digFrom n (i + 1) l else digFrom n (i + 1) l
def openL (a0 : Int) (L : List Nat) : ByteArray × Int :=
  if L.getD 1 0 < 4 ∨ 12 < L.getD 1 0 then (bsOf [], 60)
  else cond (okFrom a0 (L.getD 1 0) 2 (L.drop 2)) (bsOf (digFrom (L.getD 1 0) 2 (L.drop 2)), 0) (bsOf [], 60)
theorem strOfNums_one (v : Nat) (hv : v ≤ 9) : strOfNums [(wrap64 (48 + ((v : Nat) : Int))) % 256] = bsOf [UInt8.ofNat (48 + v)] := by
  have h : ∀ v : Fin 10, (wrap64 (48 + ((v.1 : Nat) : Int)) % 256).toNat = 48 + v.1 := by decide +kernel
  have := h ⟨v, by omega⟩
  unfold strOfNums bsOf
  simp only [List.map_cons, List.map_nil]
  simp only at this
  rw [this]
def openR (a0 : Int) (blk pan : ByteArray) : ByteArray × Int :=
  if knownB a0 = true ∧ blk.size = 8 ∧ ((((bl blk).getD 0 0).toNat / 16 : Nat) : Int) = a0 then
    (if a0 ≠ 1 ∧ digB (bl pan) 13 19 = false then (bsOf [], 50) else openL a0 (if a0 = 1 then halvesN (bl blk) else xorN (halvesN (bl blk)) (panL (bl pan))))
  else (bsOf [], 61)
theorem lt16_xor {a b : Nat} (ha : a < 16) (hb : b < 16) : a ^^^ b < 16 := by
  have h4 : ∀ (a c : Fin 16), a.1 ^^^ c.1 < 16 := by decide
  exact h4 ⟨a, ha⟩ ⟨b, hb⟩
theorem mix_ok (a0 : Int) (l : List Nat) (pan : List UInt8) (hl : l.length = 16) (h1 : ∀ n ∈ l, n < 16) (hs : a0 ≠ 1 → digB pan 13 19 = true) :
    (if a0 = 1 then l else xorN l (panL pan)).length = 16 ∧ ∀ n ∈ (if a0 = 1 then l else xorN l (panL pan)), n < 16 := by
  by_cases h : a0 = 1
  · rw [if_pos h]; exact ⟨hl, h1⟩
  · rw [if_neg h]
    obtain ⟨p1, p2⟩ := panL_ok _ (hs h)
    unfold xorN
    refine ⟨by rw [List.length_zipWith, hl, p1]; rfl, fun n hn => ?_⟩
    obtain ⟨i, hi, rfl⟩ := List.getElem_of_mem hn
    rw [List.getElem_zipWith]
    rw [List.length_zipWith] at hi
    exact lt16_xor (h1 _ (List.getElem_mem (by omega))) (p2 _ (List.getElem_mem (by omega)))
theorem unpackL_halves (l : List UInt8) : unpackL l = (halvesN l).map signAt := by
  unfold unpackL halvesN
  induction l with
  | nil => rfl
  | cons c l ih => simp [ih]
theorem byteOf_halves (c : UInt8) : byteOf (c.toNat / 16) (c.toNat % 16) = c := by
  unfold byteOf
  rw [show 16 * (c.toNat / 16) + c.toNat % 16 = c.toNat by omega, UInt8.ofNat_toNat]
theorem packL_halves (l : List UInt8) : packL (halvesN l) = l := by
  induction l with
  | nil => rfl
  | cons c l ih =>
    have : halvesN (c :: l) = c.toNat / 16 :: c.toNat % 16 :: halvesN l := rfl
    rw [this, packL, ih, byteOf_halves]
theorem halves_byteOf (a b : Nat) (ha : a < 16) (hb : b < 16) : (byteOf a b).toNat / 16 = a ∧ (byteOf a b).toNat % 16 = b := by
  unfold byteOf
  rw [UInt8.toNat_ofNat']
  omega
theorem halves_packL : ∀ l : List Nat, l.length % 2 = 0 → (∀ n ∈ l, n < 16) → halvesN (packL l) = l
  | [], _, _ => rfl
  | [_], h, _ => by simp at h
  | a :: b :: l, h, h1 => by
    have ih := halves_packL l (by simp at h; omega) (fun n hn => h1 n (by simp [hn]))
    obtain ⟨e1, e2⟩ := halves_byteOf a b (h1 a (by simp)) (h1 b (by simp))
    have : halvesN (packL (a :: b :: l)) = (byteOf a b).toNat / 16 :: (byteOf a b).toNat % 16 :: halvesN (packL l) := rfl
    rw [this, e1, e2, ih]
theorem halves_xor (l : List UInt8) (p : List Nat) (hp : p.length = 2 * l.length) (h16 : ∀ n ∈ p, n < 16) : halvesN (xorB l (packL p)) = xorN (halvesN l) p := by
  have h1 := packL_xor (halvesN l) p (by rw [halvesN_length, hp]) (halvesN_lt l) h16
  rw [packL_halves] at h1
  rw [← h1]
  refine halves_packL _ ?_ ?_
  · unfold xorN
    rw [List.length_zipWith, halvesN_length, hp]
    simp
  · intro n hn
    unfold xorN at hn
    obtain ⟨i, hi, rfl⟩ := List.getElem_of_mem hn
    rw [List.getElem_zipWith]
    rw [List.length_zipWith] at hi
    exact lt16_xor (halvesN_lt l _ (List.getElem_mem (by omega))) (h16 _ (List.getElem_mem (by omega)))

theorem signAt_dig (v : Nat) (h : v < 16) : isDig (signAt v) = decide (v ≤ 9) ∧ ((bl (sgnB.extract 10 16)).contains (signAt v)) = decide (10 ≤ v) ∧ (decide (signAt v = 70)) = decide (v = 15) := by
  have hh : ∀ v : Fin 16, isDig (signAt v.1) = decide (v.1 ≤ 9) ∧ ((bl (sgnB.extract 10 16)).contains (signAt v.1)) = decide (10 ≤ v.1) ∧ (decide (signAt v.1 = 70)) = decide (v.1 = 15) := by decide +kernel
  exact hh ⟨v, h⟩
theorem signAt_val (v : Nat) (h : v ≤ 9) : signAt v = UInt8.ofNat (48 + v) := by
  have hh : ∀ v : Fin 10, signAt v.1 = UInt8.ofNat (48 + v.1) := by decide +kernel
  exact hh ⟨v, by omega⟩
/-- 'okFrom' in two halves: the PIN's sixteenths, and the filling's. -/
theorem okFrom_lt (a0 : Int) (n : Nat) : ∀ (l : List Nat) (i : Nat), i + l.length ≤ 2 + n → okFrom a0 n i l = l.all (fun v => decide (v ≤ 9))
  | [], _, _ => rfl
  | v :: l, i, h => by
    simp only [List.length_cons] at h
    simp only [okFrom, List.all_cons]
    rw [okFrom_lt a0 n l (i + 1) (by omega)]
    have : okAt a0 n i v = decide (v ≤ 9) := by unfold okAt; rw [if_pos (by omega)]
    rw [this]
theorem okFrom_ge (a0 : Int) (n : Nat) : ∀ (l : List Nat) (i : Nat), 2 + n ≤ i → okFrom a0 n i l = l.all (fun v => (decide (a0 ≠ 0) || decide (v = 15)) && (decide (a0 ≠ 3) || decide (10 ≤ v)))
  | [], _, _ => rfl
  | v :: l, i, h => by
    simp only [okFrom, List.all_cons]
    rw [okFrom_ge a0 n l (i + 1) (by omega)]
    have : okAt a0 n i v = ((decide (a0 ≠ 0) || decide (v = 15)) && (decide (a0 ≠ 3) || decide (10 ≤ v))) := by unfold okAt; rw [if_neg (by omega)]
    rw [this]
theorem okFrom_append (a0 : Int) (n : Nat) : ∀ (l m : List Nat) (i : Nat), okFrom a0 n i (l ++ m) = (okFrom a0 n i l && okFrom a0 n (i + l.length) m)
  | [], m, i => by simp [okFrom]
  | v :: l, m, i => by
    simp only [List.cons_append, okFrom, List.length_cons]
    rw [okFrom_append a0 n l m (i + 1), show i + 1 + l.length = i + (l.length + 1) by omega, Bool.and_assoc]
theorem digFrom_lt (n : Nat) : ∀ (l : List Nat) (i : Nat), i + l.length ≤ 2 + n → digFrom n i l = l.map (fun v => UInt8.ofNat (48 + v))
  | [], _, _ => rfl
  | v :: l, i, h => by
    simp only [List.length_cons] at h
    simp only [digFrom, List.map_cons]
    rw [if_pos (by omega), digFrom_lt n l (i + 1) (by omega)]
theorem digFrom_ge (n : Nat) : ∀ (l : List Nat) (i : Nat), 2 + n ≤ i → digFrom n i l = []
  | [], _, _ => rfl
  | v :: l, i, h => by
    simp only [digFrom]
    rw [if_neg (by omega), digFrom_ge n l (i + 1) (by omega)]
theorem digFrom_append (n : Nat) : ∀ (l m : List Nat) (i : Nat), digFrom n i (l ++ m) = digFrom n i l ++ digFrom n (i + l.length) m
  | [], m, i => by simp [digFrom]
  | v :: l, m, i => by
    simp only [List.cons_append, digFrom, List.length_cons]
    rw [digFrom_append n l m (i + 1), show i + 1 + l.length = i + (l.length + 1) by omega]
    split <;> rfl
/-- What Open looks at, told in two parts. -/
theorem ok_parts (a0 : Int) (n : Nat) (L : List Nat) (hL : L.length = 16) (hn : n ≤ 12) :
    okFrom a0 n 2 (L.drop 2) = (((L.drop 2).take n).all (fun v => decide (v ≤ 9)) && (L.drop (2 + n)).all (fun v => (decide (a0 ≠ 0) || decide (v = 15)) && (decide (a0 ≠ 3) || decide (10 ≤ v)))) ∧
    digFrom n 2 (L.drop 2) = ((L.drop 2).take n).map (fun v => UInt8.ofNat (48 + v)) := by
  have h : L.drop 2 = (L.drop 2).take n ++ L.drop (2 + n) := by
    rw [← List.drop_drop, List.take_append_drop]
  have hl : ((L.drop 2).take n).length = n := by rw [List.length_take, List.length_drop]; omega
  rw [h]
  constructor
  · rw [okFrom_append, okFrom_lt _ _ _ _ (by omega), okFrom_ge _ _ _ _ (by omega), ← h]
  · rw [digFrom_append, digFrom_lt _ _ _ (by omega), digFrom_ge _ _ _ (by omega), List.append_nil, ← h]
theorem dropWhile_nil (p : UInt8 → Bool) : ∀ l : List UInt8, l.dropWhile p = [] ↔ ∀ x ∈ l, p x = true
  | [] => by simp
  | a :: l => by
    rw [List.dropWhile_cons]
    by_cases h : p a = true
    · rw [if_pos h, dropWhile_nil p l]; simp [h]
    · rw [if_neg h]; simp [h]
theorem mem_tw (p : UInt8 → Bool) (x : UInt8) : ∀ l : List UInt8, x ∈ l.takeWhile p → p x = true
  | [], h => by simp at h
  | a :: l, h => by
    rw [List.takeWhile_cons] at h
    by_cases hp : p a = true
    · rw [if_pos hp] at h
      rcases List.mem_cons.1 h with rfl | h
      · exact hp
      · exact mem_tw p x l h
    · rw [if_neg hp] at h; simp at h
theorem trim_nil (l : List UInt8) (c : UInt8) : Lib.trimB l c = [] ↔ ∀ x ∈ l, x = c := by
  unfold Lib.trimB Lib.trimLeftB Lib.trimRightB
  rw [dropWhile_nil]
  simp only [List.mem_reverse, beq_iff_eq]
  constructor
  · intro h x hx
    have hm : x ∈ l.reverse.takeWhile (· == c) ∨ x ∈ l.reverse.dropWhile (· == c) := by
      have : x ∈ l.reverse := by simpa using hx
      rw [← List.takeWhile_append_dropWhile (p := (· == c)) (l := l.reverse)] at this
      exact List.mem_append.1 this
    rcases hm with hm | hm
    · have := mem_tw _ _ _ hm
      simpa using this
    · exact h x hm
  · intro h x hx
    exact h x (by
      have := List.dropWhile_sublist (· == c) (l := l.reverse)
      have := this.subset hx
      simpa using this)

theorem pknown_eq (a : Int) : pin_known.f a = some (knownB a, a != 1) := by
  unfold pin_known.f knownB
  by_cases h0 : a = 0
  · rw [if_pos h0]; simp [h0]
  · rw [if_neg h0]
    by_cases h1 : a = 1
    · rw [if_pos h1]; simp [h1]
    · rw [if_neg h1]; by_cases h3 : a = 3 <;> simp [h0, h1, h3]
theorem all_sign (p : UInt8 → Bool) (q : Nat → Bool) (l : List Nat) (h : ∀ v ∈ l, v < 16) (hpq : ∀ v, v < 16 → p (signAt v) = q v) : (l.map signAt).all p = l.all q := by
  induction l with
  | nil => rfl
  | cons v l ih => simp only [List.map_cons, List.all_cons]; rw [ih (fun x hx => h x (by simp [hx])), hpq v (h v (by simp))]
theorem toList_eq_nil (a : ByteArray) : a.toList = ([] : List UInt8) ↔ bl a = [] := by rw [ByteArray.toList_eq]; rfl
theorem bl_ext_to (s : ByteArray) (i : Nat) : bl (s.extract i s.size) = (bl s).drop i := by
  rw [bl_extract, List.extract_eq_take_drop, List.take_of_length_le (by rw [List.length_drop, bl_length]; omega)]
theorem bl_ext_mid (s : ByteArray) (i j : Nat) : bl (s.extract i j) = ((bl s).drop i).take (j - i) := by rw [bl_extract, List.extract_eq_take_drop]
theorem popen_j2 (a0 : Int) (L : List Nat) (hL : L.length = 16) (h16 : ∀ v ∈ L, v < 16) (n : Nat) (h4 : 4 ≤ n) (h12 : n ≤ 12) (k : Nat) (hk : 60 < k) :
    pin_Open.j2 k a0 (bsOf (L.map signAt)) (n : Int) (!(((L.drop 2).take n).all (fun v => decide (v ≤ 9)))) =
      some (cond (okFrom a0 n 2 (L.drop 2)) (bsOf (digFrom n 2 (L.drop 2)), 0) (bsOf [], 60)) := by
  obtain ⟨k, rfl⟩ : ∃ m, k = m + 1 := ⟨k - 1, by omega⟩
  obtain ⟨o1, o2⟩ := ok_parts a0 n L hL h12
  rw [pin_Open.j2.eq_2, o1, o2]
  cases hd : ((L.drop 2).take n).all (fun v => decide (v ≤ 9)) with
  | false =>
    rw [if_pos (by rfl), Bool.false_and, cond_false]
    rfl
  | true =>
    rw [if_neg (show ¬ ((!true) = true) by decide), Bool.true_and]
    have e1 : wrap64 (2 + (n : Int)) = ((2 + n : Nat) : Int) := by rw [wrap_in (by omega) (by omega)]; omega
    have hsz : (bsOf (L.map signAt)).size = 16 := by rw [bsOf_size, List.length_map, hL]
    have hfill : bl ((bsOf (L.map signAt)).extract (2 + n) (bsOf (L.map signAt)).size) = (L.drop (2 + n)).map signAt := by
      rw [bl_ext_to, bl_bsOf, List.map_drop]
    have hpin : (bsOf (L.map signAt)).extract 2 (2 + n) = bsOf (((L.drop 2).take n).map (fun v => UInt8.ofNat (48 + v))) := by
      apply bl_ext
      rw [bl_ext_mid, bl_bsOf, bl_bsOf, show 2 + n - 2 = n by omega, ← List.map_drop, ← List.map_take]
      apply List.map_congr_left
      intro v hv
      have := List.all_eq_true.1 hd v hv
      exact signAt_val v (by simpa using this)
    have hfs : ((bsOf (L.map signAt)).extract (2 + n) (bsOf (L.map signAt)).size).size = 14 - n := by
      rw [← bl_length, hfill, List.length_map, List.length_drop, hL]
      omega
    have hf16 : ∀ v ∈ L.drop (2 + n), v < 16 := fun v hv => h16 v (List.mem_of_mem_drop hv)
    rw [e1, if_pos (by omega), if_pos (by rw [hsz]; omega), Int.toNat_natCast]
    have hwit : ∀ (s : ByteArray), bl s = (L.drop (2 + n)).map signAt → s.size = 14 - n → pin_within.f k s (sgnB.extract 10 16) 0 14 = some ((L.drop (2 + n)).all (fun v => decide (10 ≤ v))) := by
      intro s hs1 hs2
      rw [within_eq s _ _ _ (by omega) k (by omega)]
      unfold withinB
      rw [hs1, all_sign _ (fun v => decide (10 ≤ v)) _ hf16 (fun v hv => (signAt_dig v hv).2.1), List.length_map, List.length_drop, hL]
      rw [decide_eq_true (by omega), decide_eq_true (by omega), Bool.and_true, Bool.and_true]
    by_cases h0 : a0 = 0
    · subst h0
      rw [if_pos rfl]
      have ht : strings_Trim.f ((bsOf (L.map signAt)).extract (2 + n) (bsOf (L.map signAt)).size) (⟨#[70]⟩ : ByteArray) = some (bsOf (Lib.trimB ((L.drop (2 + n)).map signAt) 70)) := by
        unfold strings_Trim.f
        show (if (70 : UInt8).toNat < 128 ∧ _ then _ else _) = _
        rw [if_pos ⟨by decide, by omega⟩]
        have := hfill
        unfold bl at this
        rw [this]
        rfl
      rw [ht, Option.bind_some]
      have hall : (L.drop (2 + n)).all (fun v => (decide ((0 : Int) ≠ 0) || decide (v = 15)) && (decide ((0 : Int) ≠ 3) || decide (10 ≤ v))) = (L.drop (2 + n)).all (fun v => decide (v = 15)) := by
        congr 1
        funext v
        simp
      rw [hall]
      by_cases hok : (L.drop (2 + n)).all (fun v => decide (v = 15)) = true
      · have : Lib.trimB ((L.drop (2 + n)).map signAt) 70 = [] := by
          rw [trim_nil]
          intro x hx
          obtain ⟨v, hv, rfl⟩ := List.mem_map.1 hx
          have h1 := List.all_eq_true.1 hok v hv
          have h2 := (signAt_dig v (hf16 v hv)).2.2
          rw [h1] at h2
          simpa using h2
        rw [this, if_pos ((toList_eq_nil _).2 rfl), if_neg (show ¬ (0 : Int) = 3 by decide), if_pos (by omega), hpin, hok, cond_true]
      · have : Lib.trimB ((L.drop (2 + n)).map signAt) 70 ≠ [] := by
          rw [Ne, trim_nil]
          intro hall2
          apply hok
          rw [List.all_eq_true]
          intro v hv
          have h2 := (signAt_dig v (hf16 v hv)).2.2
          rw [← h2]
          simpa using hall2 _ (List.mem_map_of_mem hv)
        rw [if_neg (by rw [toList_eq_nil]; exact this), Bool.eq_false_iff.mpr hok, cond_false]
        rfl
    · rw [if_neg h0]
      by_cases h3 : a0 = 3
      · subst h3
        have hall : (L.drop (2 + n)).all (fun v => (decide ((3 : Int) ≠ 0) || decide (v = 15)) && (decide ((3 : Int) ≠ 3) || decide (10 ≤ v))) = (L.drop (2 + n)).all (fun v => decide (10 ≤ v)) := by
          congr 1
        rw [if_pos rfl, if_pos (by decide), hall]
        rw [show (⟨#[48, 49, 50, 51, 52, 53, 54, 55, 56, 57, 65, 66, 67, 68, 69, 70]⟩ : ByteArray) = sgnB from rfl, hwit _ hfill hfs, Option.bind_some]
        cases (L.drop (2 + n)).all (fun v => decide (10 ≤ v)) with
        | true => rw [if_pos rfl, if_pos (by omega), hpin, cond_true]
        | false => rw [if_neg (by decide), cond_false]; rfl
      · have hall : (L.drop (2 + n)).all (fun v => (decide (a0 ≠ 0) || decide (v = 15)) && (decide (a0 ≠ 3) || decide (10 ≤ v))) = true := by
          rw [List.all_eq_true]
          intro v _
          simp [h0, h3]
        rw [if_neg h3, if_pos (by omega), hpin, hall, cond_true]
theorem popen_j1 (a0 : Int) (x : ByteArray) (L : List Nat) (hx : x.size = 8) (hL : halvesN (bl x) = L) (k : Nat) (hk : 70 < k) : pin_Open.j1 k a0 x = some (openL a0 L) := by
  obtain ⟨k, rfl⟩ : ∃ m, k = m + 1 := ⟨k - 1, by omega⟩
  have hlen : L.length = 16 := by rw [← hL, halvesN_length, bl_length, hx]
  have h16 : ∀ v ∈ L, v < 16 := by rw [← hL]; exact halvesN_lt _
  have hun : pin_unpacked.f x = some (bsOf (L.map signAt)) := by
    unfold pin_unpacked.f
    rw [if_pos (by omega)]
    have := unpackL_halves (bl x)
    unfold bl at this hL
    rw [this, hL]
    rfl
  have hn1 : L.getD 1 0 = ((bl x).getD 0 0).toNat % 16 := by
    rw [← hL]
    have : (bl x).length = 8 := by rw [bl_length, hx]
    cases h : bl x with
    | nil => rw [h] at this; simp at this
    | cons c l => rfl
  have e0 : wrap64 (Go.bits .and .u8 (bt x 0) 15) = ((L.getD 1 0 : Nat) : Int) := by
    rw [show (0 : Int) = ((0 : Nat) : Int) from rfl, bt_nat, and15, hn1, wrap_in (by omega) (by omega)]
  rw [pin_Open.j1.eq_2, hun, Option.bind_some, if_pos (by omega), e0]
  have hnl := h16 _ (getD_mem L 1 0 (by omega))
  unfold openL
  generalize L.getD 1 0 = n at *
  have hbad : pin_Open.j2 k a0 (bsOf (L.map signAt)) (n : Int) true = some (bsOf [], 60) := by
    obtain ⟨k, rfl⟩ : ∃ m, k = m + 1 := ⟨k - 1, by omega⟩
    rw [pin_Open.j2.eq_2, if_pos rfl]
    rfl
  by_cases h4 : n < 4
  · rw [if_pos (by omega), if_pos (Or.inl h4)]
    exact hbad
  · rw [if_neg (by omega)]
    by_cases h12 : 12 < n
    · rw [if_pos (by omega), if_pos (Or.inr h12)]
      exact hbad
    · have e1 : wrap64 (2 + (n : Int)) = ((2 + n : Nat) : Int) := by rw [wrap_in (by omega) (by omega)]; omega
      rw [if_neg (show ¬ ((n : Int) > 12) by omega), if_neg (show ¬ (n < 4 ∨ 12 < n) by omega), e1, if_pos (by omega), if_pos (by rw [bsOf_size, List.length_map, hlen]; omega), Int.toNat_natCast]
      have hbl : bl ((bsOf (L.map signAt)).extract 2 (2 + n)) = ((L.drop 2).take n).map signAt := by
        rw [bl_ext_mid, bl_bsOf, show 2 + n - 2 = n by omega, ← List.map_drop, ← List.map_take]
      have hsz : ((bsOf (L.map signAt)).extract 2 (2 + n)).size = n := by
        rw [← bl_length, hbl, List.length_map, List.length_take, List.length_drop, hlen]
        omega
      have hpin : pin_isPIN.f k ((bsOf (L.map signAt)).extract 2 (2 + n)) = some (((L.drop 2).take n).all (fun v => decide (v ≤ 9))) := by
        rw [isPIN_eq _ (by omega) k (by omega)]
        unfold digB
        rw [hbl, all_sign _ (fun v => decide (v ≤ 9)) _ (fun v hv => h16 v (List.mem_of_mem_drop (List.mem_of_mem_take hv))) (fun v hv => (signAt_dig v hv).1), List.length_map, List.length_take, List.length_drop, hlen,
          show min n (16 - 2) = n by omega, decide_eq_true (by omega), decide_eq_true (by omega), Bool.and_true, Bool.and_true]
      rw [hpin, Option.bind_some]
      exact popen_j2 a0 L hlen h16 n (by omega) (by omega) k (by omega)
theorem popen_eq (a0 : Int) (blk pan : ByteArray) (s2 : pan.size ≤ 140737488355328) (k : Nat) (hk : 100 + pan.size < k) : pin_Open.f k a0 blk pan = some (openR a0 blk pan) := by
  unfold pin_Open.f openR
  rw [pknown_eq, Option.bind_some]
  obtain ⟨k, rfl⟩ : ∃ m, k = m + 1 := ⟨k - 1, by omega⟩
  have hbad : pin_Open.j0 (k + 1) a0 blk pan (a0 != 1) true = some (bsOf [], 61) := by
    rw [pin_Open.j0.eq_2, if_pos rfl]
    rfl
  by_cases hkn : knownB a0 = true
  · rw [if_pos hkn]
    by_cases h8 : blk.size = 8
    · rw [if_pos (by omega), if_pos (by omega), show (0 : Int) = ((0 : Nat) : Int) from rfl, bt_nat]
      have hc := ((bl blk).getD 0 0).toNat_lt
      have e1 : wrap64 (((((bl blk).getD 0 0).toNat : Nat) : Int) / 16) = ((((bl blk).getD 0 0).toNat / 16 : Nat) : Int) := by
        rw [wrap_in (by omega) (by omega)]
        omega
      rw [e1]
      by_cases hf : ((((bl blk).getD 0 0).toNat / 16 : Nat) : Int) = a0
      · rw [if_pos ⟨hkn, h8, hf⟩, show (((((bl blk).getD 0 0).toNat / 16 : Nat) : Int) != a0) = false by rw [bne_eq_false_iff_eq]; exact hf, pin_Open.j0.eq_2, if_neg (show ¬ (false = true) by decide)]
        by_cases h1 : a0 = 1
        · rw [if_neg (by simp [h1]), if_neg (by simp [h1]), if_pos h1]
          exact popen_j1 a0 blk _ h8 rfl k (by omega)
        · rw [if_pos (by simpa using h1), isPAN_eq pan s2 k (by omega), Option.bind_some, if_neg h1]
          by_cases hp : digB (bl pan) 13 19 = true
          · obtain ⟨p1, p2⟩ := panL_ok _ hp
            rw [if_pos hp, if_neg (by simp [hp]), summed_eq blk pan h8 hp k (by omega), Option.bind_some]
            refine popen_j1 a0 _ _ ?_ ?_ k (by omega)
            · rw [size_mk (xorB _ _)]
              unfold xorB
              rw [List.length_zipWith, bl_length, packL_length, p1, h8]
              rfl
            · rw [bl_mk (xorB _ _)]
              exact halves_xor (bl blk) (panL (bl pan)) (by rw [p1, bl_length, h8]) p2
          · have hp' : digB (bl pan) 13 19 = false := by simpa using hp
            rw [if_neg hp, if_pos ⟨h1, hp'⟩]
            rfl
      · rw [if_neg (fun h => hf h.2.2), show (((((bl blk).getD 0 0).toNat / 16 : Nat) : Int) != a0) = true by rw [bne_iff_ne]; exact hf]
        exact hbad
    · rw [if_neg (by omega), if_neg (fun h => h8 h.2.1)]
      exact hbad
  · rw [if_neg hkn, if_neg (fun h => hkn h.1)]
    exact hbad
theorem xorN_cancel : ∀ (l p : List Nat), l.length = p.length → xorN (xorN l p) p = l
  | [], [], _ => rfl
  | [], _ :: _, h => by simp at h
  | _ :: _, [], h => by simp at h
  | a :: l, b :: p, h => by
    have ih := xorN_cancel l p (by simpa using h)
    show (a ^^^ b ^^^ b) :: xorN (xorN l p) p = a :: l
    rw [ih, Nat.xor_assoc, Nat.xor_self, Nat.xor_zero]
theorem xorN_length (l p : List Nat) (h : l.length = p.length) : (xorN l p).length = l.length := by
  unfold xorN
  rw [List.length_zipWith, h]
  omega
theorem xorN_lt (l p : List Nat) (h1 : ∀ n ∈ l, n < 16) (h2 : ∀ n ∈ p, n < 16) : ∀ n ∈ xorN l p, n < 16 := by
  intro n hn
  unfold xorN at hn
  obtain ⟨i, hi, rfl⟩ := List.getElem_of_mem hn
  rw [List.getElem_zipWith]
  rw [List.length_zipWith] at hi
  exact lt16_xor (h1 _ (List.getElem_mem (by omega))) (h2 _ (List.getElem_mem (by omega)))
theorem xorN_pan (f n : Nat) (R : List Nat) (pan : List UInt8) : (xorN (f :: n :: R) (panL pan)).getD 0 0 = f ∧ (xorN (f :: n :: R) (panL pan)).getD 1 0 = n := by
  constructor
  · show f ^^^ 0 = f
    exact Nat.xor_zero f
  · show n ^^^ 0 = n
    exact Nat.xor_zero n
theorem fills3 (c : UInt8) : (bl (sgnB.extract 10 16)).contains c = true → 10 ≤ nib c ∧ isSgn c = true := by
  have hx : ∀ n : Fin 256, (bl (sgnB.extract 10 16)).contains (UInt8.ofNat n.1) = true → 10 ≤ nib (UInt8.ofNat n.1) ∧ isSgn (UInt8.ofNat n.1) = true := by decide +kernel
  have := hx ⟨c.toNat, c.toNat_lt⟩
  simpa only [UInt8.ofNat_toNat] using this

/-- What stands in the filling that Block takes. -/
def FillOk (a0 : Int) (n : Nat) (a3 : ByteArray) : Prop :=
  (a0 = 0 → a3.size = 0) ∧ (a0 ≠ 0 → a3.size = 14 - n ∧ (∀ c ∈ bl a3, isSgn c = true) ∧ (a0 = 3 → ∀ c ∈ bl a3, (bl (sgnB.extract 10 16)).contains c = true))
def fillS (a0 : Int) (n : Nat) (a3 : ByteArray) : ByteArray := if a0 = 0 then effs (14 - n) else a3
def sixteenN (a0 : Int) (pin pan a3 : ByteArray) : List Nat :=
  if a0 = 1 then (blkS a0.toNat pin (fillS a0 pin.size a3)).map nib else xorN ((blkS a0.toNat pin (fillS a0 pin.size a3)).map nib) (panL (bl pan))
theorem fillS_ok (a0 : Int) (n : Nat) (a3 : ByteArray) (hf : FillOk a0 n a3) : (fillS a0 n a3).size = 14 - n ∧ ∀ c ∈ bl (fillS a0 n a3), isSgn c = true := by
  unfold fillS
  by_cases h : a0 = 0
  · rw [if_pos h]; exact ⟨effs_size _, effs_sgn _⟩
  · rw [if_neg h]; exact ⟨(hf.2 h).1, (hf.2 h).2.1⟩
theorem block_ok (a0 : Int) (pin pan a3 : ByteArray) (h013 : a0 = 0 ∨ a0 = 1 ∨ a0 = 3) (hp : digB (bl pin) 4 12 = true) (hs : a0 ≠ 1 → digB (bl pan) 13 19 = true) (hf : FillOk a0 pin.size a3) :
    blockR a0 pin pan a3 = (bsOf (packL (sixteenN a0 pin pan a3)), 0) := by
  obtain ⟨l1, l2, l3⟩ := digB_len hp
  rw [bl_length] at l1 l2
  obtain ⟨g1, g2⟩ := fillS_ok a0 pin.size a3 hf
  have hft : a0.toNat < 16 := by omega
  obtain ⟨q1, q2⟩ := blkS_ok a0.toNat pin (fillS a0 pin.size a3) hft hp g1 g2
  have hq : ∀ n ∈ (blkS a0.toNat pin (fillS a0 pin.size a3)).map nib, n < 16 := fun n hn => by obtain ⟨c, hc, rfl⟩ := List.mem_map.1 hn; exact (nib_lt c (q2 c hc)).1
  unfold blockR sixteenN
  rw [if_pos h013, if_pos hp]
  by_cases h1 : a0 = 1
  · subst h1
    obtain ⟨f1, f2, f3⟩ := hf.2 (by decide)
    rw [if_neg (show ¬ ((1 : Int) ≠ 1 ∧ digB (bl pan) 13 19 = false) by simp), if_neg (show ¬ (1 : Int) = 0 by decide), if_pos (show (1 : Int) = 1 from rfl), if_pos, if_pos (show (1 : Int) = 1 from rfl), if_pos (show (1 : Int) = 1 from rfl)]
    · unfold fillS
      rw [if_neg (show ¬ (1 : Int) = 0 by decide)]
      rfl
    · unfold withinB
      rw [bl_length, f1, decide_eq_true (by omega), decide_eq_true (by omega), Bool.and_true, Bool.and_true, List.all_eq_true]
      exact f2
  · obtain ⟨p1, p2⟩ := panL_ok _ (hs h1)
    rw [if_neg (show ¬ (a0 ≠ 1 ∧ digB (bl pan) 13 19 = false) by simp [hs h1])]
    simp only [if_neg h1]
    rw [packL_xor _ _ (by rw [List.length_map, q1, p1]) hq p2]
    by_cases h0 : a0 = 0
    · rw [if_pos h0, if_pos (hf.1 h0)]
      unfold fillS
      rw [if_pos h0]
      subst h0
      rfl
    · obtain ⟨f1, f2, f3⟩ := hf.2 h0
      have h3 : a0 = 3 := by omega
      rw [if_neg h0, if_pos]
      · unfold fillS
        rw [if_neg h0]
        subst h3
        rfl
      · unfold withinB
        rw [bl_length, f1, decide_eq_true (by omega), decide_eq_true (by omega), Bool.and_true, Bool.and_true, List.all_eq_true]
        exact f3 h3
theorem sixteenN_ok (a0 : Int) (pin pan a3 : ByteArray) (h013 : a0 = 0 ∨ a0 = 1 ∨ a0 = 3) (hp : digB (bl pin) 4 12 = true) (hs : a0 ≠ 1 → digB (bl pan) 13 19 = true) (hf : FillOk a0 pin.size a3) :
    (sixteenN a0 pin pan a3).length = 16 ∧ (∀ n ∈ sixteenN a0 pin pan a3, n < 16) ∧ (sixteenN a0 pin pan a3).getD 0 0 = a0.toNat ∧
    (if a0 = 1 then sixteenN a0 pin pan a3 else xorN (sixteenN a0 pin pan a3) (panL (bl pan))) = a0.toNat :: pin.size :: ((bl pin).map nib ++ (bl (fillS a0 pin.size a3)).map nib) := by
  obtain ⟨l1, l2, l3⟩ := digB_len hp
  rw [bl_length] at l1 l2
  obtain ⟨g1, g2⟩ := fillS_ok a0 pin.size a3 hf
  have hft : a0.toNat < 16 := by omega
  obtain ⟨q1, q2⟩ := blkS_ok a0.toNat pin (fillS a0 pin.size a3) hft hp g1 g2
  have hq : ∀ n ∈ (blkS a0.toNat pin (fillS a0 pin.size a3)).map nib, n < 16 := fun n hn => by obtain ⟨c, hc, rfl⟩ := List.mem_map.1 hn; exact (nib_lt c (q2 c hc)).1
  have hF := blkS_nibs a0.toNat pin (fillS a0 pin.size a3) hft (by omega)
  have hl : ((blkS a0.toNat pin (fillS a0 pin.size a3)).map nib).length = 16 := by rw [List.length_map, q1]
  unfold sixteenN
  by_cases h1 : a0 = 1
  · rw [if_pos h1, if_pos h1]
    exact ⟨hl, hq, by rw [hF]; rfl, hF⟩
  · obtain ⟨p1, p2⟩ := panL_ok _ (hs h1)
    rw [if_neg h1, if_neg h1]
    refine ⟨by rw [xorN_length _ _ (by omega), hl], xorN_lt _ _ hq p2, ?_, ?_⟩
    · rw [hF]
      exact (xorN_pan _ _ _ _).1
    · rw [xorN_cancel _ _ (by omega), hF]
end Go.Proofs.YtkjjdodnkcmeiaaGreatDoor.PX
