/- The walk of pin.unpacked: each byte as two sixteenths. -/
import Derived.Test.YtkjjdodnkcmeiaaGreatDoorLibX
namespace Go.Proofs.YtkjjdodnkcmeiaaGreatDoor.PX
open Go.RowKit Go.Proofs.YtkjjdodnkcmeiaaGreatDoorW.PrintWords Go.Proofs.YtkjjdodnkcmeiaaGreatDoorW.PrintLast Go.Proofs.YtkjjdodnkcmeiaaGreatDoorW.PrintMore

def signL : List UInt8 := [48, 49, 50, 51, 52, 53, 54, 55, 56, 57, 65, 66, 67, 68, 69, 70]
def signAt (n : Nat) : UInt8 := signL.getD n 0
def unpackL (l : List UInt8) : List UInt8 := l.flatMap fun c => [signAt (c.toNat / 16), signAt (c.toNat % 16)]
def pin_unpacked.f (a0 : ByteArray) : Option ByteArray := if a0.size ≤ 1000000 then some ⟨(unpackL a0.data.toList).toArray⟩ else none
def asInts (l : List UInt8) : List Int := l.map fun c => (c.toNat : Int)
def UnIn (w wr : World) (a : ByteArray) (k : Nat) (v : Value) : Prop :=
  Below w.heap.size w wr ∧ wr.ownsRow w.heap.size 5 1 v (unpackL (a.data.toList.take k)).length (nums .u8 (asInts (unpackL (a.data.toList.take k))))

theorem unpack_take (a : ByteArray) (k : Nat) (h : k < a.size) : unpackL (a.data.toList.take (k + 1)) = unpackL (a.data.toList.take k) ++ [signAt (a[k].toNat / 16), signAt (a[k].toNat % 16)] := by
  have h' : k < a.data.toList.length := by simpa using h
  rw [List.take_succ_eq_append_getElem h']
  simp [unpackL]
  exact ⟨rfl, rfl⟩
theorem and15 (c : UInt8) : bits BinOp.and IntKind.u8 (c.toNat : Int) 15 = ((c.toNat % 16 : Nat) : Int) := by
  have h := c.toNat_lt
  rw [u8_and15 (x := (c.toNat : Int)) (by omega) (by omega)]
  omega
theorem and15_lo (c : UInt8) : (0 : Int) ≤ bits BinOp.and IntKind.u8 (c.toNat : Int) 15 := by rw [and15]; omega
theorem and15_hi (c : UInt8) : bits BinOp.and IntKind.u8 (c.toNat : Int) 15 < 16 := by rw [and15]; omega
theorem index_sign (k : IntKind) (n : Nat) (hn : n < 16) (W : World) : (Instr.index 9 (.string ⟨#[48, 49, 50, 51, 52, 53, 54, 55, 56, 57, 65, 66, 67, 68, 69, 70]⟩) (.int k (n : Int))).run Tryz.prog W = .ok (.int .u8 ((signAt n).toNat : Int)) W := by
  have h1 : (0 : Int) ≤ (n : Int) := by omega
  have h2 : (n : Int) < 16 := by omega
  go_simp
  rcases n with _ | _ | _ | _ | _ | _ | _ | _ | _ | _ | _ | _ | _ | _ | _ | _ | n
  all_goals first | rfl | omega
theorem index_hi (c : UInt8) (W : World) : (Instr.index 9 (.string ⟨#[48, 49, 50, 51, 52, 53, 54, 55, 56, 57, 65, 66, 67, 68, 69, 70]⟩) (.int .u8 ((c.toNat : Int) / 16))).run Tryz.prog W = .ok (.int .u8 ((signAt (c.toNat / 16)).toNat : Int)) W := by
  have h := c.toNat_lt
  rw [show (c.toNat : Int) / 16 = ((c.toNat / 16 : Nat) : Int) by omega]
  exact index_sign .u8 _ (by omega) W
theorem index_lo (c : UInt8) (W : World) : (Instr.index 9 (.string ⟨#[48, 49, 50, 51, 52, 53, 54, 55, 56, 57, 65, 66, 67, 68, 69, 70]⟩) (.int .u8 (bits BinOp.and IntKind.u8 (c.toNat : Int) 15))).run Tryz.prog W = .ok (.int .u8 ((signAt (c.toNat % 16)).toNat : Int)) W := by
  rw [and15]
  exact index_sign .u8 _ (by omega) W
theorem make_bytes (w : World) (n : Nat) (hn : n ≤ 1000000) : ∃ w1, (Instr.makeSlice 65 (.int .i64 0) (.int .i64 (2 * (n : Int)))).run Tryz.prog w = .ok (.slice (some ⟨w.heap.size, 0, none⟩) 0 (2 * n)) w1 ∧
    w1.ownsRow w.heap.size 5 1 (.slice (some ⟨w.heap.size, 0, none⟩) 0 (2 * n)) 0 [] ∧ w.grownBy w1 none := by
  obtain ⟨i, hi, hz⟩ := Option.map_eq_some_iff.1 info5
  simp only [Prod.mk.injEq] at hz
  have h := run_make_own (P := Tryz.prog) w w.heap.size 65 5 i (.int .u8 0) 1 Tryz.underlying65 hi hz.1 hz.2.1 .i64 .i64 (2 * n) (by rw [hz.2.2]; omega) (by unfold maxLen; omega) (Nat.le_refl _)
  rwa [show ((2 * n : Nat) : Int) = 2 * (n : Int) by omega] at h
theorem unpack_len (a : ByteArray) (k : Nat) : (unpackL (a.data.toList.take k)).length ≤ 2 * k := by
  have h : ∀ l : List UInt8, (unpackL l).length = 2 * l.length := by
    intro l
    induction l with
    | nil => rfl
    | cons c l ih => simp [unpackL] at ih ⊢; omega
  rw [h, List.length_take]
  omega
theorem two_news (wr : World) (x y : Value) (t : TypeId) : ∀ (j : Nat) (u : Value), [x, y][j]? = some u → ((wr.alloc (.cells #[x, y] t)).drew).cell? ((⟨wr.heap.size, 0, none⟩ : Addr).add j) = some u := by
  intro j u hj
  exact World.news_of_block (cs := #[x, y]) (t := t) (fr := (0, 0)) (w := wr.alloc (.cells #[x, y] t)) (heap_alloc_new wr _) j u hj
theorem two_one (x y : Int) : ∀ u ∈ [Value.int .u8 x, Value.int .u8 y], u.oneCell' = true := by
  intro u hu
  simp at hu
  rcases hu with rfl | rfl <;> rfl
theorem len_a {n k m : Nat} (h : n ≤ 2 * k) (hk : k ≤ m) (hm : m ≤ 1000000) : n + 2 ≤ maxLen := by unfold maxLen; omega
theorem len_b {n k m : Nat} (h : n ≤ 2 * k) (hk : k ≤ m) (hm : m ≤ 1000000) : (n + 2) * 1 ≤ 140737488355328 := by omega
theorem len_c {w : World} (wr : World) (h : w.heap.size ≤ wr.heap.size) (o : Obj) : w.heap.size ≤ (wr.alloc o).drew.heap.size := by
  have : (wr.alloc o).drew.heap.size = wr.heap.size + 1 := by simp
  omega
theorem unIn_step {a : ByteArray} {w wr w1 : World} {k : Nat} {v v1 : Value} {o : Obj} (hk : k < a.size) (h : UnIn w wr a k v)
    (hown : w1.ownsRow w.heap.size 5 1 v1 ((unpackL (a.data.toList.take k)).length + 2) (nums .u8 (asInts (unpackL (a.data.toList.take k))) ++ [.int .u8 ((signAt (a[k].toNat / 16)).toNat : Int), .int .u8 ((signAt (a[k].toNat % 16)).toNat : Int)]))
    (hg : (wr.alloc o).drew.grownBy w1 v.ownBlock) : UnIn w w1 a (k + 1) v1 := by
  obtain ⟨hB, hO⟩ := h
  refine ⟨(hB.alloc hB.size o).drew.grown hg (len_c wr hB.size o) (own_base hO), ?_⟩
  rw [unpack_take a k hk]
  simpa [asInts, nums] using hown
theorem unIn_string {a0 : ByteArray} {w wr : World} {v : Value} (h : UnIn w wr a0 a0.size v) :
    (convert 65 9 v).run Tryz.prog wr = .ok (.string ⟨(unpackL a0.data.toList).toArray⟩) wr := by
  obtain ⟨_, h⟩ := h
  rw [List.take_of_length_le (by simp)] at h
  have := own_string (P := Tryz.prog) (src := 65) (dst := 9) Tryz.underlying65 Tryz.underlying5 Tryz.underlying9 h
  rwa [show strOfNums (asInts (unpackL a0.data.toList)) = ⟨(unpackL a0.data.toList).toArray⟩ from strOfNums_bytes _] at this
set_option maxRecDepth 100000 in
set_option maxHeartbeats 1000000 in
theorem unpacked_walk (a0 : ByteArray) (w : World) (hs : a0.size ≤ 1000000) :
    Calls Tryz.prog 28 #[.string a0] w fun e w' => e = .returned (.string ⟨(unpackL a0.data.toList).toArray⟩) ∧ Below w.heap.size w w' := by
  obtain ⟨w1, hmk, hown, hgrow⟩ := make_bytes w a0.size hs
  have HS : Hid (UnIn w w1 a0 0 (.slice (some ⟨w.heap.size, 0, none⟩) 0 (2 * a0.size))) := ⟨(Below.refl _ _).grown hgrow (Nat.le_refl _) (by simp), by simpa [unpackL, asInts, nums] using hown⟩
  clear hown hgrow
  go_enter Tryz.func28, Tryz.ntmps28
  go_wp2
  go_loopw [3, 4, 11] (fun v _ i wr => ∃ k : Nat, k ≤ a0.size ∧ i = .int .i64 k ∧ UnIn w wr a0 k v) (fun _ _ i _ => a0.size - (intOf i).toNat)
  case atStart => exact ⟨0, Nat.zero_le _, rfl, HS.out⟩
  case round =>
    clear hmk HS
    obtain ⟨k, hk, rfl, hX⟩ := hrel
    by_cases hlt : k < a0.size
    · have HX := Lib.hid hX
      clear hX
      have b0 := a0[k].toNat_lt
      have q1 := index_hi a0[k]
      have q2 := index_lo a0[k]
      go_wp2_with fail
      obtain ⟨hB, hO⟩ := HX.out
      have hB1 := Lib.hid hB
      have hO1 := Lib.hid hO
      clear hB hO
      obtain ⟨i0, hi, hz⟩ := Option.map_eq_some_iff.1 info5
      simp only [Prod.mk.injEq] at hz
      obtain ⟨hz0, hz1, hz2⟩ := hz
      have Hi := Lib.hid hi
      have Hz0 := Lib.hid hz0
      have Hz1 := Lib.hid hz1
      have Hz2 := Lib.hid hz2
      have HL := Lib.hid (unpack_len a0 k)
      have HW := Lib.hid hB1.out.size
      clear hi hz0 hz1 hz2
      go_region_law (first | ((refine step_append_lies (w := (wr.alloc (.cells #[.int .u8 ((signAt (a0[k].toNat / 16)).toNat : Int), .int .u8 ((signAt (a0[k].toNat % 16)).toNat : Int)] 5)).drew) (hgd := rfl) (s := .tmp 14) (x := .tmp 25) (t := 65) (ho := rfl) (base := w.heap.size) (e := 5) (i := i0) (z := .int .u8 0) (size := 1) (bytes := 1) (ht := Tryz.underlying65) (hi := Hi.out) (hz := Hz0.out) (hsize := Hz1.out) (hby := Hz2.out) (hzs := rfl) (hsz := by decide) (v := u3) (n := _) (xs := _) (hs := rfl) (hown := hO1.out.alloc (.cells #[.int .u8 ((signAt (a0[k].toNat / 16)).toNat : Int), .int .u8 ((signAt (a0[k].toNat % 16)).toNat : Int)] 5)) (ad := ⟨wr.heap.size, 0, none⟩) (m := 2) (c := 2) (news := [.int .u8 ((signAt (a0[k].toNat / 16)).toNat : Int), .int .u8 ((signAt (a0[k].toNat % 16)).toNat : Int)]) (hx := rfl) (hl := rfl) (hnews := two_news _ _ _ _) (h1 := two_one _ _) (hm := by decide) (h63 := len_a HL.out hk hs) (hbytes := len_b HL.out hk hs) (hbase := len_c wr HW.out _) (H := _) (hH := rfl) ?_); intro g cap w1 hown hgr hg hlt2))
      all_goals
        have HR := Lib.hid (unIn_step hlt HX.out hown hgr)
        clear hown hgr hg hlt2
        go_wp2
        go_roundw
        case rel => exact ⟨k + 1, by omega, by go_num, HR.out⟩
        case measure => simp [intOf]; omega
    · obtain rfl : k = a0.size := by omega
      have kc := unIn_string hX
      have HB := Lib.hid hX.1
      clear hX
      go_wp2
      go_ret
      exact ⟨rfl, HB.out⟩
theorem pin_unpacked.calls (a0 : ByteArray) (r : ByteArray) (w : World) (h : pin_unpacked.f a0 = some r) :
    Calls Tryz.prog 28 #[.string a0] w fun e w' => e = .returned (.string r) ∧ Below w.heap.size w w' := by
  unfold pin_unpacked.f at h
  split at h
  · rename_i hs
    obtain rfl := Option.some.inj h
    exact unpacked_walk a0 w hs
  · cases h
end Go.Proofs.YtkjjdodnkcmeiaaGreatDoor.PX
