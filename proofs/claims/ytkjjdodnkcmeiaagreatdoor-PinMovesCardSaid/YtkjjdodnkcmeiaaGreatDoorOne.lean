/- The reference's cipher (turnstileref3): contracts of its functions over lists of bits; the walks of its round keys and of one block. -/
import Derived.Test.YtkjjdodnkcmeiaaGreatDoorPurE
namespace Go.Proofs.YtkjjdodnkcmeiaaGreatDoor.PX
open Go.RowKit Go.Proofs.YtkjjdodnkcmeiaaGreatDoorW.PrintWords Go.Proofs.YtkjjdodnkcmeiaaGreatDoorW.PrintLast Go.Proofs.YtkjjdodnkcmeiaaGreatDoorW.PrintMore

/-- A row of numbers that is read, and its block's type. -/
def CT (w : World) (A : Option Addr) (l : List Nat) : Prop := (∃ (ad : Addr) (cells : Array Value), A = some ad ∧ w.heap[ad.block]? = some (.cells cells 3 (0, 0))) ∧ Kd.C (Kd.int .i64) w A l.length (natL l)
theorem CT.below {w w' : World} {A : Option Addr} {l : List Nat} (h : CT w A l) (hb : Below w.heap.size w w') : CT w' A l := by
  obtain ⟨⟨ad, cells, e, hx⟩, hc⟩ := h
  exact ⟨⟨ad, cells, e, (hb.block _ (blk_lt hx)).trans hx⟩, Kd.C_below hc hb⟩
theorem CT.grown {w w1 : World} {A : Option Addr} {l : List Nat} (h : CT w A l) {row : Option Nat} (hg : w.grownBy w1 row) (hr : ∀ k, row = some k → ∃ cells, w.heap[k]? = some (.cells cells 59 (0, 0))) : CT w1 A l := by
  obtain ⟨⟨ad, cells, rfl, hx⟩, h1, h2, h3⟩ := h
  have hb : w1.heap[ad.block]? = w.heap[ad.block]? := by
    refine hg.block _ (blk_lt hx) (fun e => ?_)
    obtain ⟨cells', hy⟩ := hr _ e.symm
    rw [hx] at hy
    simp at hy
  refine ⟨⟨ad, cells, rfl, hb.trans hx⟩, h1, h2, fun hn => ?_⟩
  obtain ⟨ad', e, hc⟩ := h3 hn
  obtain rfl := Option.some.inj e
  refine ⟨ad, rfl, fun j p hj => ?_⟩
  obtain ⟨c, hs, hR, hcell⟩ := hc j p hj
  refine ⟨c, hs, hR, fun i u hu => ?_⟩
  rw [World.cell?_of_block (w := w) (by rw [show (ad.add (j * (Kd.int .i64).sz + i)).block = ad.block by unfold Addr.add; split <;> rfl]; exact hb)]
  exact hcell i u hu
theorem CT_of_R {w : World} {base : Nat} {ok : Nat → Prop} {v : Value} {l : List Nat} (h : Kd.R (Kd.int .i64) 3 w base ok v (natL l)) (hp : 0 < l.length) : ∃ A c, v = .slice A l.length c ∧ l.length ≤ c ∧ CT w A l := by
  obtain ⟨g, cap, rfl, _, _, cells, hx⟩ := Kd.R_form h (by rw [natL_length]; exact hp)
  obtain ⟨_, h2, h3⟩ := Kd.R_reads' h
  rw [natL_length] at h2 h3 ⊢
  exact ⟨_, cap, rfl, h2, ⟨_, cells, rfl, hx⟩, h3⟩
theorem CT.take {w : World} {A : Option Addr} {l : List Nat} (h : CT w A l) (m : Nat) (hm : m ≤ l.length) : CT w A (l.take m) := by
  have h2 : Kd.C (Kd.int .i64) w A (natL l).length (natL l) := by rw [natL_length]; exact h.2
  have h3 := Kd.C_take (m := m) h2 (by rw [natL_length]; exact hm)
  rw [natL_take, natL_length] at h3
  exact ⟨h.1, h3⟩
theorem CT.drop {w : World} {A : Option Addr} {l : List Nat} (h : CT w A l) (m c : Nat) (hm : m < l.length) (hc : l.length ≤ c) : CT w (if c = m then A else A.map (·.add (m * 1))) (l.drop m) := by
  have h2 : Kd.C (Kd.int .i64) w A (natL l).length (natL l) := by rw [natL_length]; exact h.2
  have h3 := Kd.C_drop (m := m) (c := c) h2 (by rw [natL_length]; omega) (by rw [natL_length]; exact hc)
  rw [natL_drop, natL_length] at h3
  refine ⟨?_, h3⟩
  obtain ⟨ad, cells, rfl, hx⟩ := h.1
  rw [if_neg (by omega)]
  exact ⟨_, cells, rfl, by rw [show (ad.add (m * 1)).block = ad.block by unfold Addr.add; split <;> rfl]; exact hx⟩
/-- What a contract says of a call that makes a row of so many numbers. -/
def MakesRow (w : World) (n : Nat) (l : List Nat) (e : Ending) (w' : World) : Prop := ∃ A c, e = .returned (.slice A n c) ∧ n ≤ c ∧ CT w' A l ∧ Below w.heap.size w w' ∧ Kd.R (Kd.int .i64) 3 w' w.heap.size (fun _ => True) (.slice A n c) (natL l)
theorem makesRow_of {w w' : World} {e : Ending} {v : Value} {r : List Int} {l : List Nat} {n : Nat} (h : e = .returned v ∧ Kd.R (Kd.int .i64) 3 w' w.heap.size (fun _ => True) v r ∧ Below w.heap.size w w') (hr : r = natL l) (hn : l.length = n) (hp : 0 < n) : MakesRow w n l e w' := by
  obtain ⟨rfl, hR, hb⟩ := h
  subst hr hn
  obtain ⟨A, c, rfl, h1, h2⟩ := CT_of_R hR hp
  exact ⟨A, c, rfl, h1, h2, hb, hR⟩
theorem r115 (w : World) : Calls Tryz.prog 103 #[] w (MakesRow w 56 firstN) := (turnstileref3_tableK1.calls _ w rfl).mono fun _ _ ⟨_, h⟩ => makesRow_of h rfl rfl (by decide)
theorem r117 (w : World) : Calls Tryz.prog 105 #[] w (MakesRow w 48 secondN) := (turnstileref3_tableK2.calls _ w rfl).mono fun _ _ ⟨_, h⟩ => makesRow_of h rfl rfl (by decide)
theorem r103 (w : World) : Calls Tryz.prog 88 #[] w (MakesRow w 64 enterN) := (turnstileref3_tableIn.calls _ w rfl).mono fun _ _ ⟨_, h⟩ => makesRow_of h rfl rfl (by decide)
theorem r108 (w : World) : Calls Tryz.prog 93 #[] w (MakesRow w 64 leaveN) := (turnstileref3_tableOut.calls _ w rfl).mono fun _ _ ⟨_, h⟩ => makesRow_of h rfl rfl (by decide)
theorem r104 (s : ByteArray) (hs : s.size = 8) (w : World) : Calls Tryz.prog 89 #[.string s] w (MakesRow w 64 (bitL 64 (numB (bl s)))) :=
  (turnstileref3_bits.calls 101 s _ w (rbits_eq s hs 101 (by decide))).mono fun _ _ ⟨_, h⟩ => makesRow_of h rfl (bitL_length _ _) (by decide)
theorem r102 (tab l : List Nat) (n m : Nat) (hn : tab.length = n) (hm : l.length = m) (ht : ∀ x ∈ tab, 1 ≤ x ∧ x ≤ m) (hl : n ≤ 64) (hl' : m ≤ 64) (hp : 0 < n) (A1 A2 : Option Addr) (c1 c2 : Nat) (w : World) (h1 : n ≤ c1) (h2 : m ≤ c2) (H1 : CT w A1 tab) (H2 : CT w A2 l) :
    Calls Tryz.prog 87 #[.slice A1 n c1, .slice A2 m c2] w (MakesRow w n (takeL tab l)) := by
  subst hn hm
  have h := turnstileref3_take.calls 65 A1 c1 (natL tab) A2 c2 (natL l) _ w (by rw [natL_length]; exact H1.2) (by rw [natL_length]; exact h1) (by rw [natL_length]; exact H2.2) (by rw [natL_length]; exact h2) (rtake_eq tab l ht hl hl' 65 (by decide))
  rw [natL_length, natL_length] at h
  exact h.mono fun _ _ ⟨_, h⟩ => makesRow_of h rfl (by simp [takeL]) hp
theorem r116 (l : List Nat) (hl : l.length = 28) (n : Nat) (hn : n ≤ 2) (A : Option Addr) (c : Nat) (w : World) (hc : 28 ≤ c) (H : CT w A l) : Calls Tryz.prog 104 #[.slice A 28 c, .int .i64 (n : Int)] w (MakesRow w 28 (leftL l n)) := by
  have h := turnstileref3_left.calls 65 A c (natL l) (n : Int) _ w (by rw [natL_length]; exact H.2) (by rw [natL_length]; omega) (rleft_eq l n hn hl 65 (by decide))
  rw [natL_length, hl] at h
  exact h.mono fun _ _ ⟨_, h⟩ => makesRow_of h rfl (by simp [leftL, hl]) (by decide)
theorem r116_1 (x : Nat) (hx : x < 2 ^ 28) (A : Option Addr) (c : Nat) (w : World) (hc : 28 ≤ c) (H : CT w A (bitL 28 x)) : Calls Tryz.prog 104 #[.slice A 28 c, .int .i64 1] w (MakesRow w 28 (bitL 28 (halfN x 1))) := by
  have := r116 _ (bitL_length 28 x) 1 (by decide) A c w hc H
  rw [leftL_bit x 1 hx (Or.inl rfl)] at this
  exact this
theorem r116_2 (x : Nat) (hx : x < 2 ^ 28) (A : Option Addr) (c : Nat) (w : World) (hc : 28 ≤ c) (H : CT w A (bitL 28 x)) : Calls Tryz.prog 104 #[.slice A 28 c, .int .i64 2] w (MakesRow w 28 (bitL 28 (halfN x 2))) := by
  have := r116 _ (bitL_length 28 x) 2 (by decide) A c w hc H
  rw [leftL_bit x 2 hx (Or.inr rfl)] at this
  exact this
theorem r106 (x y : Nat) (A1 A2 : Option Addr) (c1 c2 : Nat) (w : World) (h1 : 32 ≤ c1) (h2 : 32 ≤ c2) (H1 : CT w A1 (bitL 32 x)) (H2 : CT w A2 (bitL 32 y)) : Calls Tryz.prog 91 #[.slice A1 32 c1, .slice A2 32 c2] w (MakesRow w 32 (bitL 32 (x ^^^ y))) := by
  have h := turnstileref3_sum.calls 65 A1 c1 (natL (bitL 32 x)) A2 c2 (natL (bitL 32 y)) _ w (by rw [natL_length]; exact H1.2) (by rw [natL_length, bitL_length]; exact h1) (by rw [natL_length]; exact H2.2) (by rw [natL_length, bitL_length]; exact h2)
    (rsum_eq _ _ (bitL_le _ _) (bitL_le _ _) (by rw [bitL_length]; decide) (by rw [bitL_length, bitL_length]; omega) 65 (by decide))
  rw [natL_length, natL_length, bitL_length, bitL_length, sumL_bit] at h
  exact h.mono fun _ _ ⟨_, h⟩ => makesRow_of h rfl (bitL_length _ _) (by decide)
theorem r105 (r key : Nat) (hr : r < 4294967296) (A1 A2 : Option Addr) (c1 c2 : Nat) (w : World) (h1 : 32 ≤ c1) (h2 : 48 ≤ c2) (H1 : CT w A1 (bitL 32 r)) (H2 : CT w A2 (bitL 48 key)) : Calls Tryz.prog 90 #[.slice A1 32 c1, .slice A2 48 c2] w (MakesRow w 32 (bitL 32 (mixN r key))) := by
  have h := turnstileref3_mixed.calls 101 A1 c1 (natL (bitL 32 r)) A2 c2 (natL (bitL 48 key)) _ w (by rw [natL_length]; exact H1.2) (by rw [natL_length, bitL_length]; exact h1) (by rw [natL_length]; exact H2.2) (by rw [natL_length, bitL_length]; exact h2) (r3mixed_eq r key hr 101 (by decide))
  rw [natL_length, natL_length, bitL_length, bitL_length] at h
  exact h.mono fun _ _ ⟨_, h⟩ => makesRow_of h rfl (bitL_length _ _) (by decide)
theorem r107 (x : Nat) (A : Option Addr) (c : Nat) (w : World) (hc : 64 ≤ c) (H : CT w A (bitL 64 x)) : Calls Tryz.prog 92 #[.slice A 64 c] w fun e w' => e = .returned (.string ⟨(bytesN x).toArray⟩) ∧ Below w.heap.size w w' := by
  have h := turnstileref3_bytes.calls 101 A c (natL (bitL 64 x)) _ w (by rw [natL_length]; exact H.2) (by rw [natL_length, bitL_length]; exact hc) (r3bytes_eq x 101 (by decide))
  rw [natL_length, bitL_length] at h
  exact h
end Go.Proofs.YtkjjdodnkcmeiaaGreatDoor.PX
namespace Go.Proofs.YtkjjdodnkcmeiaaGreatDoor.PX
open Go.RowKit Go.Proofs.YtkjjdodnkcmeiaaGreatDoorW.PrintWords Go.Proofs.YtkjjdodnkcmeiaaGreatDoorW.PrintLast Go.Proofs.YtkjjdodnkcmeiaaGreatDoorW.PrintMore

theorem info60 : (Tryz.prog.info? 59).map (fun i => (i.zero, i.size, i.bytes)) = some (some (.slice none 0 0), 1, 24) := by kernel_rfl
/-- The round keys so far, in a row of rows. -/
def outsL (s : List UInt8) (i : Nat) : List (List Int) := (List.range i).map fun j => natL (bitL 48 (keyN s j))
theorem outsL_succ (s : List UInt8) (i : Nat) : outsL s (i + 1) = outsL s i ++ [natL (bitL 48 (keyN s i))] := by simp [outsL, List.range_succ]
theorem outsL_length (s : List UInt8) (i : Nat) : (outsL s i).length = i := by simp [outsL]
def Outs (w : World) (base : Nat) (v : Value) (s : List UInt8) (i : Nat) : Prop := Kd.R (Kd.slice 3 (Kd.int .i64)) 59 w base (fun _ => True) v (outsL s i)
theorem Outs.below {w w' : World} {base : Nat} {v : Value} {s : List UInt8} {i : Nat} (h : Outs w base v s i) (hb : Below w.heap.size w w') : Outs w' base v s i :=
  Kd.R_mono (Kd.R_move (Kd.R_bound h) (fun k hk => hb.block k hk.2.2.1)) (fun _ _ => trivial)
def RoundsAt (w : World) (v : Value) (ks : Nat → Nat) : Prop := ∃ (g c : Nat), v = .slice (some ⟨g, 0, none⟩) 16 c ∧ 16 ≤ c ∧ ∀ j, j < 16 → ∃ A cj, w.cell? ⟨g, j, none⟩ = some (.slice A 48 cj) ∧ 48 ≤ cj ∧ CT w A (bitL 48 (ks j))
theorem roundsAt_of {w : World} {base : Nat} {v : Value} {s : List UInt8} (h : Outs w base v s 16) : RoundsAt w v (keyN s) := by
  obtain ⟨g, cap, rfl, _, _, _⟩ := Kd.R_form h (by rw [outsL_length]; decide)
  obtain ⟨h0, ho⟩ := h
  obtain ⟨A, c, e, hl, hr⟩ := OwnRow.reads ho
  injection e with e1 e2 e3
  subst e1 e3
  rw [outsL_length] at hl hr
  obtain ⟨ad, e4, hc⟩ := hr.2.2 (by decide)
  obtain rfl := Option.some.inj e4
  refine ⟨g, cap, by rw [outsL_length], hl, fun j hj => ?_⟩
  have hj' : (outsL s 16)[j]? = some (natL (bitL 48 (keyN s j))) := by
    unfold outsL
    rw [List.getElem?_map, List.getElem?_range hj]
    rfl
  obtain ⟨cs, h1, ⟨u, rfl, hR⟩, hcell⟩ := hc j _ hj'
  obtain ⟨A, c', rfl, h2, h3⟩ := CT_of_R hR (by rw [bitL_length]; decide)
  rw [bitL_length] at h2
  refine ⟨A, c', ?_, h2, h3⟩
  have := hcell 0 _ rfl
  have ea : (⟨g, 0, none⟩ : Addr).add j = ⟨g, j, none⟩ := by
    unfold Addr.add
    split
    · rename_i h; simp_all
    · simp
  rw [show j * (Kd.slice 3 (Kd.int .i64)).sz + 0 = j from by show j * 1 + 0 = j; omega, bitL_length, ea] at this
  exact this
theorem take28 (x : Nat) : (bitL 56 x).take 28 = bitL 28 (x / 268435456) := by
  apply List.ext_getElem
  · simp [bitL_length]
  · intro i h1 h2
    rw [bitL_length] at h2
    rw [List.getElem_take, bitL_getElem, bitL_getElem, ← Nat.toNat_testBit, ← Nat.toNat_testBit, show (268435456 : Nat) = 2 ^ 28 from rfl, Nat.testBit_div_two_pow]
    congr 2
    omega
theorem drop28 (x : Nat) : (bitL 56 x).drop 28 = bitL 28 (x % 268435456) := by
  apply List.ext_getElem
  · simp [bitL_length]
  · intro i h1 h2
    rw [bitL_length] at h2
    rw [List.getElem_drop, bitL_getElem, bitL_getElem, ← Nat.toNat_testBit, ← Nat.toNat_testBit, show (268435456 : Nat) = 2 ^ 28 from rfl, Nat.testBit_mod_two_pow, decide_eq_true (by omega), Bool.true_and]
    congr 2
    omega
theorem key_bits (s : List UInt8) (i : Nat) (a b : Nat) (ha : a = halfTo (partN s / 268435456) (i + 1)) (hb : b = halfTo (partN s % 268435456) (i + 1)) (hlt : b < 2 ^ 28) : takeL secondN (bitL 28 a ++ bitL 28 b) = bitL 48 (keyN s i) := by
  subst ha hb
  rw [← bitL_append 28 28 _ _ hlt, takeL_bit _ _ _ (by decide)]
  rfl
theorem CT.reads {W : World} {A : Option Addr} {l : List Nat} (h : CT W A l) (n : Nat) (hn : l.length = n) : ReadsRow ((Kd.int .i64).K W) (Kd.int .i64).sz W A n (natL l) := by
  subst hn
  exact h.2
theorem both_ct {W : World} {base : Nat} {v : Value} {a b : Nat} (h : Kd.R (Kd.int .i64) 3 W base (fun _ => True) v ((([] : List Int) ++ natL (bitL 28 a)) ++ natL (bitL 28 b))) : ∃ A c, v = .slice A 56 c ∧ 56 ≤ c ∧ CT W A (bitL 28 a ++ bitL 28 b) := by
  rw [List.nil_append, ← natL_append] at h
  obtain ⟨A, c, rfl, h1, h2⟩ := CT_of_R h (by rw [List.length_append, bitL_length, bitL_length]; decide)
  have hl : (bitL 28 a ++ bitL 28 b).length = 56 := by rw [List.length_append, bitL_length, bitL_length]
  rw [hl] at h1 ⊢
  exact ⟨A, c, rfl, h1, h2⟩
theorem out_next {W w : World} {v6 v : Value} {s : List UInt8} {i a b base' : Nat} (HO : Outs W w.heap.size v6 s i) (hR : Kd.R (Kd.int .i64) 3 W base' (fun _ => True) v (natL (takeL secondN (bitL 28 a ++ bitL 28 b)))) (hb : w.heap.size ≤ base') :
    (Kd.slice 3 (Kd.int .i64)).M W w.heap.size (fun k => some k ≠ v6.ownBlock) (natL (takeL secondN (bitL 28 a ++ bitL 28 b))) [v] :=
  ⟨v, rfl, Kd.R_mono (Kd.R_apartR (Kd.R_lower hR hb) HO (fun q hq => by simp [Kd.int, Kd.scalar] at hq; omega)) (fun _ h => h.2)⟩
set_option maxRecDepth 100000 in
set_option maxHeartbeats 4000000 in
theorem c101 (s : ByteArray) (hs : s.size = 8) (w : World) : Calls Tryz.prog 86 #[.string s] w fun e w' => ∃ v, e = .returned v ∧ RoundsAt w' v (keyN (bl s)) ∧ Below w.heap.size w w' := by
  have hP : partN (bl s) < 2 ^ 56 := takeN_lt firstN _ 64
  have hx1 : partN (bl s) / 268435456 < 2 ^ 28 := by omega
  have hx2 : partN (bl s) % 268435456 < 2 ^ 28 := Nat.mod_lt _ (by decide)
  have hpart : takeL firstN (bitL 64 (numB (bl s))) = bitL 56 (partN (bl s)) := by
    rw [takeL_bit firstN _ 64 (by decide)]
    unfold partN
    rw [List.take_of_length_le (by rw [bl_length]; omega)]
    rfl
  have C104 := Lib.hid (r104 s hs)
  have HPART := Lib.hid hpart
  clear hpart hs
  obtain ⟨i3, hi3, hz0, hz1, hz2⟩ := info_parts info3
  go_enter Tryz.func86, Tryz.ntmps86
  go_wp2_with (first
    | (go_at_call 103; (with_reducible refine (r115 _).mono ?_); rintro e w115 ⟨A115, c115, rfl, hc115, hr, hb, _⟩; have HR115 := Lib.hid hr; have HB115 := Lib.hid hb; clear hr hb)
    | (go_at_call 89; (with_reducible refine (C104.out _).mono ?_); rintro e w104 ⟨A104, c104, rfl, hc104, hr, hb, _⟩; have HR104 := Lib.hid hr; have HB104 := Lib.hid hb; clear hr hb)
    | (go_at_call 87; (with_reducible refine (r102 firstN (bitL 64 (numB (bl s))) 56 64 rfl (bitL_length _ _) (by decide) (by decide) (by decide) (by decide) _ _ _ _ _ hc115 hc104 (HR115.out.below HB104.out) HR104.out).mono ?_);
        rintro e w102 ⟨A3, c3, rfl, hc3, hr, hb, _⟩; have HR3 := Lib.hid hr; have HB102 := Lib.hid hb; clear hr hb;
        have kc1 : ∀ W : World, (Instr.slice 59 (.slice A3 56 c3) none (some (.int .i64 28)) none).run Tryz.prog W = .ok (.slice A3 28 c3) W := cut_to (P := Tryz.prog) 59 3 .i64 Tryz.underlying59 hi3 A3 56 c3 28 (by decide) (by decide) hc3;
        have kc2 : ∀ W : World, (Instr.slice 59 (.slice A3 56 c3) (some (.int .i64 28)) none none).run Tryz.prog W = .ok (.slice (if c3 = 28 then A3 else A3.map (·.add (28 * 1))) 28 (c3 - 28)) W := cut_from (P := Tryz.prog) 59 3 .i64 Tryz.underlying59 hi3 1 hz1 A3 56 c3 28 (by decide) (by decide);
        obtain ⟨A5, hA5⟩ : ∃ A5 : Option Addr, A5 = (if c3 = 28 then A3 else A3.map (·.add (28 * 1))) := ⟨_, rfl⟩;
        rw [← hA5] at kc2; have HA5 := Lib.hid hA5; clear hA5))
  have h4 := Lib.hid (show CT w102 A3 (bitL 28 (halfTo (partN (bl s) / 268435456) 0)) from by
    have := HR3.out.take 28 (by simp [takeL]; decide)
    rw [HPART.out, take28] at this
    exact this)
  have h5 := Lib.hid (show CT w102 A5 (bitL 28 (halfTo (partN (bl s) % 268435456) 0)) from by
    have := HR3.out.drop 28 c3 (by simp [takeL]; decide) (by simp [takeL]; exact hc3)
    rw [← HA5.out, HPART.out, drop28] at this
    exact this)
  have HB := Lib.hid (below_next (below_next HB115.out HB104.out) HB102.out)
  have hc5 : 28 ≤ c3 - 28 := by omega
  have hc4 : 28 ≤ c3 := by omega
  clear HB115 HB104 HB102 HR3 HA5 kc1 kc2 HR115 HR104 hc115 hc104 C104 HPART hP
  go_loopg [4, 5, 6, 7] 16 (fun kq v4 v5 v6 v7 w' => ∃ (i m : Nat) (A4 A5 : Option Addr) (c4 c5 : Nat), i + kq = 16 ∧ Hid (m = i + 1) ∧ v4 = .slice A4 28 c4 ∧ v5 = .slice A5 28 c5 ∧ v7 = .int .i64 (m : Int) ∧ 28 ≤ c4 ∧ 28 ≤ c5 ∧
    Hid (CT w' A4 (bitL 28 (halfTo (partN (bl s) / 268435456) i))) ∧ Hid (CT w' A5 (bitL 28 (halfTo (partN (bl s) % 268435456) i))) ∧ Hid (Outs w' w.heap.size v6 (bl s) i) ∧ Hid (Below w.heap.size w w'))
  case atStart => exact ⟨0, 1, A3, A5, c3, c3 - 28, rfl, Lib.hid rfl, rfl, rfl, rfl, hc4, hc5, h4, h5, Lib.hid (Kd.R_nil _ _ _ _ _), HB⟩
  case round =>
    clear h4 h5 HB hc4 hc5
    obtain ⟨i, m, A4, A5', c4, c5, hi, HM, rfl, rfl, rfl, hc4, hc5, H4, H5, HO, HB⟩ := hrel
    have hm := HM.out
    by_cases h16 : i < 16
    · have hlt : decide ((m : Int) ≤ 16) = true := decide_eq_true (by omega)
      have hm16 : m ≤ 16 := by omega
      have l1 := halfTo_lt _ hx1 i
      have l2 := halfTo_lt _ hx2 i
      go_upto_region 9 with fail
      go_cut [35] (fun s35 wx => ∃ q : Bool, Hid (byN i = cond q 1 2) ∧ s35 = .bool q ∧ wr = wx)
      case first =>
        rcases (show i = 0 ∨ i = 1 ∨ i = 8 ∨ i = 15 ∨ (i ≠ 0 ∧ i ≠ 1 ∧ i ≠ 8 ∧ i ≠ 15) by omega) with h | h | h | h | h
        all_goals
          first | (have n1 : ((m : Int) == 1) = true := beq_iff_eq.mpr (by omega)) | (have n1 : ((m : Int) == 1) = false := beq_eq_false_iff_ne.mpr (by omega))
          first | (have n2 : ((m : Int) == 2) = true := beq_iff_eq.mpr (by omega)) | (have n2 : ((m : Int) == 2) = false := beq_eq_false_iff_ne.mpr (by omega))
          first | (have n9 : ((m : Int) == 9) = true := beq_iff_eq.mpr (by omega)) | (have n9 : ((m : Int) == 9) = false := beq_eq_false_iff_ne.mpr (by omega))
          first | (have n16 : ((m : Int) == 16) = true := beq_iff_eq.mpr (by omega)) | (have n16 : ((m : Int) == 16) = false := beq_eq_false_iff_ne.mpr (by omega))
          first | (have HBY := Lib.hid (show byN i = cond true 1 2 from if_pos (by omega))) | (have HBY := Lib.hid (show byN i = cond false 1 2 from if_neg (by omega)))
          clear hm h
          go_wp2_with fail
          go_meet
          exact ⟨_, HBY, rfl, rfl⟩
      case rest =>
        obtain ⟨q, HBY, rfl, rfl⟩ := hcut
        clear hm
        have C4a := Lib.hid (r116_1 _ l1)
        have C4b := Lib.hid (r116_2 _ l1)
        have C5a := Lib.hid (r116_1 _ l2)
        have C5b := Lib.hid (r116_2 _ l2)
        cases q
        all_goals
          go_wp2_with (first
        | (go_at_call 104; (first | (with_reducible refine (C4a.out A4 c4 _ hc4 H4.out).mono ?_) | (with_reducible refine (C4b.out A4 c4 _ hc4 H4.out).mono ?_)); rintro e w38 ⟨A38, c38, rfl, hc38, hr, hb, _⟩; have HR38 := Lib.hid hr; have HB38 := Lib.hid hb; clear hr hb)
        | (go_at_call 104; (first | (with_reducible refine (C5a.out A5' c5 _ hc5 (H5.out.below HB38.out)).mono ?_) | (with_reducible refine (C5b.out A5' c5 _ hc5 (H5.out.below HB38.out)).mono ?_)); rintro e w41 ⟨A41, c41, rfl, hc41, hr, hb, _⟩; have HR41 := Lib.hid hr; have HB41 := Lib.hid hb; clear hr hb)
        | ((with_reducible refine gate_builtin (b := .append) (xs := #[.tmp 42, .tmp 43]) rfl ?_); at_builtin; refine Kd.R_append_rows (Kd.int .i64) (w0 := w41) w41.heap.size rfl (.tmp 42) (.tmp 43) 59 3 (.int .i64 0) 8 rfl Tryz.underlying59 info3 rfl (by decide) (by decide) (.slice none 0 0) ([] : List Int) (natL (bitL 28 _)) A38 28 c38 (fun _ => True) (fun _ => False) rfl rfl (Kd.R_nil _ _ _ _ _) ((HR38.out.below HB41.out).reads 28 (bitL_length _ _)) (fun _ _ h => h) (fun _ h => h.elim) (fun _ _ => trivial) (Below.refl _ _) (Nat.le_refl _) (by decide) ?_; intro v44 w44 ho hb hg hat; have HO44 := Lib.hid ho; have HB44 := Lib.hid hb; clear ho hb hg hat)
            | ((with_reducible refine gate_builtin (b := .append) (xs := #[.tmp 45, .tmp 46]) rfl ?_); at_builtin; refine Kd.R_append_rows (Kd.int .i64) (w0 := w41) w41.heap.size rfl (.tmp 45) (.tmp 46) 59 3 (.int .i64 0) 8 rfl Tryz.underlying59 info3 rfl (by decide) (by decide) v44 (([] : List Int) ++ natL (bitL 28 _)) (natL (bitL 28 _)) A41 28 c41 (fun _ => True) (fun _ => False) rfl rfl HO44.out ((HR41.out.below HB44.out).reads 28 (bitL_length _ _)) (fun _ _ h => h) (fun _ h => h.elim) (fun _ _ => trivial) HB44.out HB44.out.size (by rw [List.nil_append, natL_length, bitL_length]; decide) ?_; intro v47 w47 ho hb hg hat; obtain ⟨A9, c9, rfl, hc9, hr9⟩ := both_ct ho; have HR9 := Lib.hid hr9; have HB47 := Lib.hid hb; clear ho hb hg hat hr9)
            | (go_at_call 105; (with_reducible refine (r117 _).mono ?_); rintro e w49 ⟨A49, c49, rfl, hc49, hr, hb, _⟩; have HR49 := Lib.hid hr; have HB49 := Lib.hid hb; clear hr hb)
            | (go_at_call 87; (with_reducible refine (r102 secondN (bitL 28 _ ++ bitL 28 _) 48 56 rfl (by rw [List.length_append, bitL_length, bitL_length]) (by decide) (by decide) (by decide) (by decide) _ _ _ _ _ hc49 hc9 HR49.out (HR9.out.below HB49.out)).mono ?_); rintro e w51 ⟨A51, c51, rfl, hc51, hr, hb, hrr⟩; have HRR := Lib.hid hrr; have HB51 := Lib.hid hb; clear hr hb hrr; have HC := Lib.hid (below_next (below_next (below_next (below_next HB38.out HB41.out) HB47.out) HB49.out) HB51.out); have HO' := Lib.hid (HO.out.below HC.out); have HB' := Lib.hid (below_next HB.out HC.out); have HL' := Lib.hid (Nat.le_trans (below_next (below_next (below_next (below_next HB.out HB38.out) HB41.out) HB47.out) HB49.out).size (Nat.le_refl _)))
            | ((with_reducible refine gate_builtin (b := .append) (xs := #[.tmp 48, .tmp 52]) rfl ?_); at_builtin; refine Kd.R_append (Kd.slice 3 (Kd.int .i64)) (w0 := w) w.heap.size rfl (.tmp 48) (.tmp 52) 115 59 (.slice none 0 0) 24 rfl Tryz.underlying115 info60 rfl (by decide) (by decide) u6 (outsL (bl s) i) (natL (takeL secondN (bitL 28 _ ++ bitL 28 _))) [.slice A51 48 c51] (fun _ => True) (fun k => some k ≠ u6.ownBlock) rfl rfl (out_next HO'.out HRR.out HL'.out) (fun _ h => ⟨trivial, h⟩) (fun _ _ => trivial) HO'.out HB'.out HB'.out.size (by rw [outsL_length]; omega) ?_; intro v6' w6 ho hb hg hat; have HO6 := Lib.hid ho; have HB6 := Lib.hid hb; have HG6 := Lib.hid hg; clear ho hb hg hat))

        all_goals
          go_roundg (gk - 1)
          case measure => omega
          case rel => exact ⟨i + 1, m + 1, A38, A41, c38, c41, by omega, Lib.hid (congrArg (· + 1) HM.out), rfl, rfl, by go_num, hc38, hc41,
            Lib.hid (by rw [halfTo_of _ _ _ HBY.out]; exact ((HR38.out.below HB41.out).below (below_next (below_next HB47.out HB49.out) HB51.out)).grown HG6.out (Kd.R_typed HO'.out)),
            Lib.hid (by rw [halfTo_of _ _ _ HBY.out]; exact (HR41.out.below (below_next (below_next HB47.out HB49.out) HB51.out)).grown HG6.out (Kd.R_typed HO'.out)),
            Lib.hid (by
              unfold Outs
              rw [outsL_succ, ← key_bits (bl s) i _ _ (halfTo_of _ _ _ HBY.out).symm (halfTo_of _ _ _ HBY.out).symm (halfN_lt _ _)]
              exact HO6.out), HB6⟩
    · obtain rfl : i = 16 := by omega
      have hlt : decide ((m : Int) ≤ 16) = false := decide_eq_false (by omega)
      clear hm
      go_wp2_with fail
      go_ret
      exact ⟨_, rfl, roundsAt_of HO.out, HB.out⟩
end Go.Proofs.YtkjjdodnkcmeiaaGreatDoor.PX
namespace Go.Proofs.YtkjjdodnkcmeiaaGreatDoor.PX
open Go.RowKit Go.Proofs.YtkjjdodnkcmeiaaGreatDoorW.PrintWords Go.Proofs.YtkjjdodnkcmeiaaGreatDoorW.PrintLast Go.Proofs.YtkjjdodnkcmeiaaGreatDoorW.PrintMore

theorem RoundsAt.below {w w' : World} {v : Value} {ks : Nat → Nat} (h : RoundsAt w v ks) (hb : Below w.heap.size w w') : RoundsAt w' v ks := by
  obtain ⟨ad, c, rfl, hc, hj⟩ := h
  refine ⟨ad, c, rfl, hc, fun j hj' => ?_⟩
  obtain ⟨A, cj, h1, h2, h3⟩ := hj j hj'
  exact ⟨A, cj, (hb.cell (World.block_lt_of_cell? w _ h1)).trans h1, h2, h3.below hb⟩
theorem RoundsAt.get {w : World} {g c : Nat} {ks : Nat → Nat} (h : RoundsAt w (.slice (some ⟨g, 0, none⟩) 16 c) ks) (j : Nat) (hj : j < 16) : ∃ A cj, w.cell? ⟨g, j, none⟩ = some (.slice A 48 cj) ∧ 48 ≤ cj ∧ CT w A (bitL 48 (ks j)) := by
  obtain ⟨g', c', e, _, h2⟩ := h
  injection e with e1 e2 e3
  have e4 := Option.some.inj e1
  injection e4 with e5 e6 e7
  subst e5
  exact h2 j hj
theorem take32 (x : Nat) : (bitL 64 x).take 32 = bitL 32 (x / 4294967296) := by
  apply List.ext_getElem
  · simp [bitL_length]
  · intro i h1 h2
    rw [bitL_length] at h2
    rw [List.getElem_take, bitL_getElem, bitL_getElem, ← Nat.toNat_testBit, ← Nat.toNat_testBit, show (4294967296 : Nat) = 2 ^ 32 from rfl, Nat.testBit_div_two_pow]
    congr 2
    omega
theorem drop32 (x : Nat) : (bitL 64 x).drop 32 = bitL 32 (x % 4294967296) := by
  apply List.ext_getElem
  · simp [bitL_length]
  · intro i h1 h2
    rw [bitL_length] at h2
    rw [List.getElem_drop, bitL_getElem, bitL_getElem, ← Nat.toNat_testBit, ← Nat.toNat_testBit, show (4294967296 : Nat) = 2 ^ 32 from rfl, Nat.testBit_mod_two_pow, decide_eq_true (by omega), Bool.true_and]
    congr 2
    omega
theorem both_ct64 {W : World} {base : Nat} {v : Value} {a b : Nat} (h : Kd.R (Kd.int .i64) 3 W base (fun _ => True) v ((([] : List Int) ++ natL (bitL 32 a)) ++ natL (bitL 32 b))) (hb : b < 4294967296) : ∃ A c, v = .slice A 64 c ∧ 64 ≤ c ∧ CT W A (bitL 64 (a * 4294967296 + b)) := by
  rw [List.nil_append, ← natL_append, ← bitL_append 32 32 a b hb] at h
  obtain ⟨A, c, rfl, h1, h2⟩ := CT_of_R h (by rw [bitL_length]; decide)
  rw [bitL_length] at h1 ⊢
  exact ⟨A, c, rfl, h1, h2⟩
theorem feis_fst (key : Nat → Nat) (x : Nat × Nat) (i : Nat) : (feisN key x (i + 1)).1 = (feisN key x i).2 := rfl
theorem feis_snd (key : Nat → Nat) (x : Nat × Nat) (i k : Nat) (h : key i = k) : (feisN key x (i + 1)).2 = (feisN key x i).1 ^^^ mixN (feisN key x i).2 k := by rw [← h]; rfl
theorem keyAt_fwd (ks : Nat → Nat) (i : Nat) : keyAt ks false i = ks i := rfl
theorem keyAt_bwd (ks : Nat → Nat) (i : Nat) : keyAt ks true i = ks (15 - i) := rfl
theorem leave_bits {W : World} {A : Option Addr} (x : Nat) (h : CT W A (takeL leaveN (bitL 64 x))) : CT W A (bitL 64 (takeN leaveN x 64)) := by
  rw [takeL_bit leaveN x 64 (by decide)] at h
  exact h
theorem one_end (ks : Nat → Nat) (n : Nat) (back : Bool) (X1 X2 : Nat) (F : Nat × Nat) (h1 : takeN enterN n 64 / 4294967296 = X1) (h2 : takeN enterN n 64 % 4294967296 = X2) (hF : feisN (keyAt ks back) (X1, X2) 16 = F) :
    Ending.returned (.string ⟨(bytesN (takeN leaveN (F.2 * 4294967296 + F.1) 64)).toArray⟩) = .returned (.string ⟨(bytesN (oneN ks n back)).toArray⟩) := by
  subst h1 h2 hF
  rfl
def turnstileref3_one.f (a0 a1 : ByteArray) (a2 : Bool) : Option ByteArray := if a0.size = 8 ∧ a1.size = 8 then some ⟨(bytesN (oneN (keyN (bl a0)) (numB (bl a1)) a2)).toArray⟩ else none
set_option maxRecDepth 100000 in
set_option maxHeartbeats 4000000 in
theorem c90 (key s : ByteArray) (back : Bool) (hk : key.size = 8) (hs : s.size = 8) (w : World) : Calls Tryz.prog 67 #[.string key, .string s, .bool back] w fun e w' => e = .returned (.string ⟨(bytesN (oneN (keyN (bl key)) (numB (bl s)) back)).toArray⟩) ∧ Below w.heap.size w w' := by
  have hpart : takeL enterN (bitL 64 (numB (bl s))) = bitL 64 (takeN enterN (numB (bl s)) 64) := takeL_bit enterN _ 64 (by decide)
  have hT : takeN enterN (numB (bl s)) 64 < 18446744073709551616 := takeN_lt enterN _ 64
  have hx : takeN enterN (numB (bl s)) 64 / 4294967296 < 4294967296 ∧ takeN enterN (numB (bl s)) 64 % 4294967296 < 4294967296 := ⟨by omega, by omega⟩
  have HX := Lib.hid hx
  have C101 := Lib.hid (c101 key hk)
  have C104 := Lib.hid (r104 s hs)
  have HPART := Lib.hid hpart
  clear hpart hs hk hx hT
  obtain ⟨i3, hi3, hz0, hz1, hz2⟩ := info_parts info3
  go_enter Tryz.func67, Tryz.ntmps67
  go_wp2_with (first
    | (go_at_call 86; (with_reducible refine (C101.out _).mono ?_); rintro e w101 ⟨v, rfl, hr, hb⟩; obtain ⟨g17, c17, rfl, hc17, hj⟩ := hr; have HR101 := Lib.hid (show RoundsAt w101 (.slice (some ⟨g17, 0, none⟩) 16 c17) (keyN (bl key)) from ⟨g17, c17, rfl, hc17, hj⟩); have HB101 := Lib.hid hb; clear hj hb)
    | (go_at_call 88; (with_reducible refine (r103 _).mono ?_); rintro e w103 ⟨A103, c103, rfl, hc103, hr, hb, _⟩; have HR103 := Lib.hid hr; have HB103 := Lib.hid hb; clear hr hb)
    | (go_at_call 89; (with_reducible refine (C104.out _).mono ?_); rintro e w104 ⟨A104, c104, rfl, hc104, hr, hb, _⟩; have HR104 := Lib.hid hr; have HB104 := Lib.hid hb; clear hr hb)
    | (go_at_call 87; (with_reducible refine (r102 enterN (bitL 64 (numB (bl s))) 64 64 rfl (bitL_length _ _) (by decide) (by decide) (by decide) (by decide) _ _ _ _ _ hc103 hc104 (HR103.out.below HB104.out) HR104.out).mono ?_); rintro e w102 ⟨A3, c3, rfl, hc3, hr, hb, _⟩; have HR3 := Lib.hid hr; have HB102 := Lib.hid hb; clear hr hb; have kc1 : ∀ W : World, (Instr.slice 59 (.slice A3 64 c3) none (some (.int .i64 32)) none).run Tryz.prog W = .ok (.slice A3 32 c3) W := cut_to (P := Tryz.prog) 59 3 .i64 Tryz.underlying59 hi3 A3 64 c3 32 (by decide) (by decide) hc3; have kc2 : ∀ W : World, (Instr.slice 59 (.slice A3 64 c3) (some (.int .i64 32)) none none).run Tryz.prog W = .ok (.slice (if c3 = 32 then A3 else A3.map (·.add (32 * 1))) 32 (c3 - 32)) W := cut_from (P := Tryz.prog) 59 3 .i64 Tryz.underlying59 hi3 1 hz1 A3 64 c3 32 (by decide) (by decide); obtain ⟨A5, hA5⟩ : ∃ A5 : Option Addr, A5 = (if c3 = 32 then A3 else A3.map (·.add (32 * 1))) := ⟨_, rfl⟩; rw [← hA5] at kc2; have HA5 := Lib.hid hA5; clear hA5))
  have h4 := Lib.hid (show CT w102 A3 (bitL 32 (takeN enterN (numB (bl s)) 64 / 4294967296)) from by
    have := HR3.out.take 32 (by simp [takeL]; decide)
    rw [HPART.out, take32] at this
    exact this)
  have h5 := Lib.hid (show CT w102 A5 (bitL 32 (takeN enterN (numB (bl s)) 64 % 4294967296)) from by
    have := HR3.out.drop 32 c3 (by simp [takeL]; decide) (by simp [takeL]; exact hc3)
    rw [← HA5.out, HPART.out, drop32] at this
    exact this)
  have HB := Lib.hid (below_next (below_next (below_next HB101.out HB103.out) HB104.out) HB102.out)
  have HK := Lib.hid (HR101.out.below (below_next (below_next HB103.out HB104.out) HB102.out))
  have hc5 : 32 ≤ c3 - 32 := by omega
  have hc4 : 32 ≤ c3 := by omega
  clear HB101 HB103 HB104 HB102 HR3 HA5 kc1 kc2 HR103 HR104 hc103 hc104 C104 HPART C101 HR101
  generalize hX1 : takeN enterN (numB (bl s)) 64 / 4294967296 = X1 at *
  generalize hX2 : takeN enterN (numB (bl s)) 64 % 4294967296 = X2 at *
  have HX1 := Lib.hid hX1
  have HX2 := Lib.hid hX2
  clear hX1 hX2
  go_loopg [9, 10, 11] 16 (fun kq v9 v10 v11 w' => ∃ (i : Nat) (A9 A10 : Option Addr) (c9 c10 : Nat), i + kq = 16 ∧ v9 = .slice A9 32 c9 ∧ v10 = .slice A10 32 c10 ∧ v11 = .int .i64 (i : Int) ∧ 32 ≤ c9 ∧ 32 ≤ c10 ∧
    Hid (CT w' A9 (bitL 32 (feisN (keyAt (keyN (bl key)) back) (X1, X2) i).1)) ∧ Hid (CT w' A10 (bitL 32 (feisN (keyAt (keyN (bl key)) back) (X1, X2) i).2)) ∧ Hid (RoundsAt w' (.slice (some ⟨g17, 0, none⟩) 16 c17) (keyN (bl key))) ∧ Hid (Below w.heap.size w w'))
  case atStart => exact ⟨0, A3, A5, c3, c3 - 32, rfl, rfl, rfl, rfl, hc4, hc5, h4, h5, HK, HB⟩
  case round =>
    clear h4 h5 HB hc4 hc5 HK
    obtain ⟨i, A9, A10, c9, c10, hi, rfl, rfl, rfl, hc9, hc10, H9, H10, HK, HB⟩ := hrel
    have HL := Lib.hid (feisN_lt (keyAt (keyN (bl key)) back) (X1, X2) HX.out i)
    by_cases h16 : i < 16
    · have hlt : decide ((i : Int) < 16) = true := decide_eq_true (by omega)
      cases back
      · obtain ⟨AK, cK, hcell, hcK, hCT⟩ := HK.out.get i h16
        have HCT := Lib.hid hCT
        clear hCT
        have HKEY := Lib.hid (keyAt_fwd (keyN (bl key)) i)
        go_wp2_with (first
          | (go_at_call 90; (with_reducible refine (r105 _ _ HL.out.2 A10 AK c10 cK _ hc10 hcK H10.out HCT.out).mono ?_); rintro e w39 ⟨A39, c39, rfl, hc39, hr, hb, _⟩; have HR39 := Lib.hid hr; have HB39 := Lib.hid hb; clear hr hb)
          | (go_at_call 91; (with_reducible refine (r106 _ _ A9 A39 c9 c39 _ hc9 hc39 (H9.out.below HB39.out) HR39.out).mono ?_); rintro e w42 ⟨A42, c42, rfl, hc42, hr, hb, _⟩; have HR42 := Lib.hid hr; have HB42 := Lib.hid hb; clear hr hb))
        go_roundg (gk - 1)
        case measure => omega
        case rel => exact ⟨i + 1, A10, A42, c10, c42, by omega, rfl, rfl, rfl, hc10, hc42, Lib.hid (by rw [feis_fst]; exact H10.out.below (below_next HB39.out HB42.out)), Lib.hid (by rw [feis_snd _ _ _ _ HKEY.out]; exact HR42.out), Lib.hid (HK.out.below (below_next HB39.out HB42.out)), Lib.hid (below_next (below_next HB.out HB39.out) HB42.out)⟩
      · obtain ⟨AK, cK, hcell, hcK, hCT⟩ := HK.out.get (15 - i) (by omega)
        have HCT := Lib.hid hCT
        clear hCT
        have HKEY := Lib.hid (keyAt_bwd (keyN (bl key)) i)
        have he : IntKind.i64.wrap (15 - (i : Int)) = ((15 - i : Nat) : Int) := by rw [IntKind.wrap_i64]; omega
        have he1 : ((15 - i : Nat) : Int) < 16 := by omega
        have he2 : (0 : Int) ≤ ((15 - i : Nat) : Int) := by omega
        go_wp2_with (first
          | (go_at_call 90; (with_reducible refine (r105 _ _ HL.out.2 A10 AK c10 cK _ hc10 hcK H10.out HCT.out).mono ?_); rintro e w39 ⟨A39, c39, rfl, hc39, hr, hb, _⟩; have HR39 := Lib.hid hr; have HB39 := Lib.hid hb; clear hr hb)
          | (go_at_call 91; (with_reducible refine (r106 _ _ A9 A39 c9 c39 _ hc9 hc39 (H9.out.below HB39.out) HR39.out).mono ?_); rintro e w42 ⟨A42, c42, rfl, hc42, hr, hb, _⟩; have HR42 := Lib.hid hr; have HB42 := Lib.hid hb; clear hr hb))
        go_roundg (gk - 1)
        case measure => omega
        case rel => exact ⟨i + 1, A10, A42, c10, c42, by omega, rfl, rfl, rfl, hc10, hc42, Lib.hid (by rw [feis_fst]; exact H10.out.below (below_next HB39.out HB42.out)), Lib.hid (by rw [feis_snd _ _ _ _ HKEY.out]; exact HR42.out), Lib.hid (HK.out.below (below_next HB39.out HB42.out)), Lib.hid (below_next (below_next HB.out HB39.out) HB42.out)⟩
    · obtain rfl : i = 16 := by omega
      have hlt : decide (((16 : Nat) : Int) < 16) = false := by decide
      generalize hF : feisN (keyAt (keyN (bl key)) back) (X1, X2) 16 = F at *
      have HF := Lib.hid hF
      clear hF
      go_wp2_with (first
        | ((with_reducible refine gate_builtin (b := .append) (xs := #[.tmp 45, .tmp 46]) rfl ?_); at_builtin; refine Kd.R_append_rows (Kd.int .i64) (w0 := wr) wr.heap.size rfl (.tmp 45) (.tmp 46) 59 3 (.int .i64 0) 8 rfl Tryz.underlying59 info3 rfl (by decide) (by decide) (.slice none 0 0) ([] : List Int) (natL (bitL 32 F.2)) A10 32 c10 (fun _ => True) (fun _ => False) rfl rfl (Kd.R_nil _ _ _ _ _) (H10.out.reads 32 (bitL_length _ _)) (fun _ _ h => h) (fun _ h => h.elim) (fun _ _ => trivial) (Below.refl _ _) (Nat.le_refl _) (by decide) ?_; intro v47 w47 ho hb hg hat; have HO47 := Lib.hid ho; have HB47 := Lib.hid hb; clear ho hb hg hat)
        | ((with_reducible refine gate_builtin (b := .append) (xs := #[.tmp 48, .tmp 49]) rfl ?_); at_builtin; refine Kd.R_append_rows (Kd.int .i64) (w0 := wr) wr.heap.size rfl (.tmp 48) (.tmp 49) 59 3 (.int .i64 0) 8 rfl Tryz.underlying59 info3 rfl (by decide) (by decide) v47 (([] : List Int) ++ natL (bitL 32 F.2)) (natL (bitL 32 F.1)) A9 32 c9 (fun _ => True) (fun _ => False) rfl rfl HO47.out ((H9.out.below HB47.out).reads 32 (bitL_length _ _)) (fun _ _ h => h) (fun _ h => h.elim) (fun _ _ => trivial) HB47.out HB47.out.size (by rw [List.nil_append, natL_length, bitL_length]; decide) ?_; intro v50 w50 ho hb hg hat; obtain ⟨A15, c15, rfl, hc15, hr15⟩ := both_ct64 ho HL.out.1; have HR15 := Lib.hid hr15; have HB50 := Lib.hid hb; clear ho hb hg hat hr15)
        | (go_at_call 93; (with_reducible refine (r108 _).mono ?_); rintro e w108 ⟨A108, c108, rfl, hc108, hr, hb, _⟩; have HR108 := Lib.hid hr; have HB108 := Lib.hid hb; clear hr hb)
        | (go_at_call 87; (with_reducible refine (r102 leaveN (bitL 64 (F.2 * 4294967296 + F.1)) 64 64 rfl (bitL_length _ _) (by decide) (by decide) (by decide) (by decide) _ _ _ _ _ hc108 hc15 HR108.out (HR15.out.below HB108.out)).mono ?_); rintro e w53 ⟨A53, c53, rfl, hc53, hr, hb, _⟩; have HR53 := Lib.hid hr; have HB53 := Lib.hid hb; clear hr hb)
        | (go_at_call 92; (with_reducible refine (r107 (takeN leaveN (F.2 * 4294967296 + F.1) 64) A53 c53 _ hc53 (leave_bits _ HR53.out)).mono ?_); rintro e w54 ⟨rfl, hb⟩; have HB54 := Lib.hid hb; clear hb))
      go_ret
      exact ⟨one_end _ _ _ _ _ _ HX1.out HX2.out HF.out, below_next (below_next (below_next (below_next HB.out HB50.out) HB108.out) HB53.out) HB54.out⟩
theorem turnstileref3_one.calls (a0 a1 : ByteArray) (a2 : Bool) (r : ByteArray) (w : World) (h : turnstileref3_one.f a0 a1 a2 = some r) : Calls Tryz.prog 67 #[.string a0, .string a1, .bool a2] w fun e w' => e = .returned (.string r) ∧ Below w.heap.size w w' := by
  unfold turnstileref3_one.f at h
  by_cases hs : a0.size = 8 ∧ a1.size = 8
  · rw [if_pos hs] at h
    obtain rfl := Option.some.inj h
    exact c90 a0 a1 a2 hs.1 hs.2 w
  · rw [if_neg hs] at h
    cases h
end Go.Proofs.YtkjjdodnkcmeiaaGreatDoor.PX
