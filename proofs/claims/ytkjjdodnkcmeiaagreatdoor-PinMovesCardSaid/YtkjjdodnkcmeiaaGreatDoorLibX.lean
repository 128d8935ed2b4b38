/- The walk of cipher.Xor: two texts of one length, byte by byte. -/
import Derived.Test.YtkjjdodnkcmeiaaGreatDoorLib
import Derived.Lib.Hide
import Derived.Laws.BitsAllLaws
namespace Go.Proofs.YtkjjdodnkcmeiaaGreatDoor.PX
open Go.RowKit Go.Proofs.YtkjjdodnkcmeiaaGreatDoorW.PrintWords Go.Proofs.YtkjjdodnkcmeiaaGreatDoorW.PrintLast Go.Proofs.YtkjjdodnkcmeiaaGreatDoorW.PrintMore

/-- The byte-wise sum. -/
def xorL (a b : ByteArray) : List UInt8 := (List.range a.size).map fun i => (a.data.toList.getD i 0) ^^^ (b.data.toList.getD i 0)
def xorAt (a b : ByteArray) (k j : Nat) : UInt8 := if j < k then (a.data.toList.getD j 0) ^^^ (b.data.toList.getD j 0) else a.data.toList.getD j 0
structure XorIn (w wr : World) (a b : ByteArray) (k : Nat) : Prop where
  below : Below w.heap.size w wr
  cell : ∀ j, j < a.size → wr.cell? ⟨w.heap.size, j, none⟩ = some (.int .u8 ((xorAt a b k j).toNat : Int))
  free : ∀ j, j < a.size → wr.frozen? ⟨w.heap.size, j, none⟩ = false
def cipher_Xor.f (a0 a1 : ByteArray) : Option (ByteArray × Int) :=
  if a0.size = a1.size then (if a0.size ≤ 9223372036854775807 then some (⟨(xorL a0 a1).toArray⟩, 0) else none) else some (⟨#[]⟩, 1)
theorem xorIn_start (a0 a1 : ByteArray) (w : World) : XorIn w (Lib.bytesWorld w 5 a0) a0 a1 0 := by
  refine ⟨bytes_below (Below.refl _ _) (Nat.le_refl _) 5 a0, fun j hj => ?_, fun j hj => ?_⟩
  · rw [Lib.bytesWorld_cell w 5 a0 j hj]; simp [xorAt]
  · have hz := Lib.bytesWorld_at_new w 5 a0
    have hsz : (Lib.bytesCells w 5 a0).size = a0.size + (grownCap w a0.size 0 5 - a0.size) := by simp [Lib.bytesCells]
    simp only [World.frozen?, hz]
    rw [decide_eq_false (by omega), Bool.false_and]
theorem xor_bits (a b : UInt8) : bits BinOp.xor IntKind.u8 (a.toNat : Int) (b.toNat : Int) = ((a ^^^ b).toNat : Int) := by
  rw [u8_xor_nat _ _ a.toNat_lt b.toNat_lt, UInt8.toNat_xor]
theorem getD_data (a : ByteArray) (k : Nat) (h : k < a.size) : a.data.toList.getD k 0 = a[k] := by
  have h' : k < a.data.toList.length := by simpa using h
  rw [List.getD_eq_getElem?_getD, List.getElem?_eq_getElem h']
  rfl
theorem xorIn_step {a0 a1 : ByteArray} {w wr : World} {k : Nat} (h : XorIn w wr a0 a1 k) (hk : k < a0.size) (hk1 : k < a1.size) :
    XorIn w (wr.setCell ⟨w.heap.size, k, none⟩ (.int .u8 (bits BinOp.xor .u8 ((xorAt a0 a1 k k).toNat : Int) (a1[k].toNat : Int)))).drew a0 a1 (k + 1) := by
  obtain ⟨hb, hc, hf⟩ := h
  refine ⟨(hb.setCell (Nat.le_refl _) _).drew, fun j hj => ?_, fun j hj => ?_⟩
  · show (wr.setCell _ _).cell? _ = _
    by_cases e : j = k
    · subst e
      rw [World.cell?_setCell_same _ _ _ (hc j hj), xor_bits]
      simp only [xorAt]
      rw [if_neg (by omega), if_pos (by omega), getD_data a1 j hk1]
    · rw [World.cell?_setCell_other _ _ _ _ (by intro h; injection h; omega), hc j hj]
      simp only [xorAt]
      by_cases hjk : j < k
      · rw [if_pos hjk, if_pos (by omega)]
      · rw [if_neg hjk, if_neg (by omega)]
  · show (wr.setCell _ _).frozen? _ = _
    rw [World.frozen?_setCell]
    exact hf j hj
theorem strOfNums_bytes (l : List UInt8) : strOfNums (l.map fun b => (b.toNat : Int)) = ⟨l.toArray⟩ := by
  unfold strOfNums
  rw [List.map_map]
  have h : (fun n : Int => UInt8.ofNat n.toNat) ∘ (fun b : UInt8 => (b.toNat : Int)) = id := by funext b; simp
  rw [h, List.map_id]
theorem xorIn_string {a0 a1 : ByteArray} {w wr : World} (h : XorIn w wr a0 a1 a0.size) (c : Nat) :
    (convert 65 9 (.slice (some ⟨w.heap.size, 0, none⟩) a0.size c)).run Tryz.prog wr = .ok (.string ⟨(xorL a0 a1).toArray⟩) wr := by
  have hz := run_convert_bytes_arg (P := Tryz.prog) wr 65 5 Tryz.underlying65 Tryz.underlying5 w.heap.size 0 a0.size c ((xorL a0 a1).map fun b => (b.toNat : Int)) (by simp [xorL]) (fun i hi => ?_) 9 Tryz.underlying9
  · rw [hz, strOfNums_bytes]
  · rw [Nat.zero_add, h.cell i hi]
    congr 2
    have hl : i < (xorL a0 a1).length := by simp [xorL]; exact hi
    rw [List.getD_eq_getElem?_getD, List.getElem?_map, List.getElem?_eq_getElem hl]
    simp [xorL, xorAt, hi]

set_option maxHeartbeats 1000000 in
theorem xor_same (a0 a1 : ByteArray) (w : World) (hs : a0.size ≤ 9223372036854775807) (he : a0.size = a1.size) :
    Calls Tryz.prog 52 #[.string a0, .string a1] w fun e w' => e = .returned (.tuple #[.string ⟨(xorL a0 a1).toArray⟩, .int .i64 0]) ∧ Below w.heap.size w w' := by
  have kb := fun W => print_bytes (P := Tryz.prog) 9 65 5 Tryz.underlying9 Tryz.underlying65 Tryz.underlying5 a0 W
  have hd : decide ((a0.size : Int) = (a1.size : Int)) = true := by simp [he]
  have hne : ((a0.size : Int) != (a1.size : Int)) = false := by simp [he]
  have hd2 := Lib.hid he
  clear he
  go_enter Tryz.func52, Tryz.ntmps52
  go_wp2
  go_loopw [7, 17] (fun _ i wr => ∃ k : Nat, k ≤ a0.size ∧ i = .int .i64 k ∧ XorIn w wr a0 a1 k) (fun _ i _ => a0.size - (intOf i).toNat)
  case atStart => exact ⟨0, Nat.zero_le _, rfl, xorIn_start a0 a1 w⟩
  case round =>
    obtain ⟨k, hk, rfl, hX⟩ := hrel
    by_cases hlt : k < a0.size
    · have hc := hX.cell k hlt
      have hf := hX.free k hlt
      have hlt1 : k < a1.size := by have := hd2.out; omega
      have HX := Lib.hid hX
      clear hX
      go_wp2_with fail
      go_region
      go_wp2
      go_roundw
      case rel => exact ⟨k + 1, by omega, by go_num, xorIn_step HX.out hlt hlt1⟩
      case measure => simp [intOf]; omega
    · obtain rfl : k = a0.size := by omega
      have kc := xorIn_string hX
      have HB := Lib.hid hX.below
      clear hX
      go_wp2
      go_ret2
      exact ⟨rfl, HB.out⟩

theorem xor_not (a0 a1 : ByteArray) (w : World) (he : ¬ a0.size = a1.size) :
    Calls Tryz.prog 52 #[.string a0, .string a1] w fun e w' => e = .returned (.tuple #[.string ⟨#[]⟩, .int .i64 1]) ∧ Below w.heap.size w w' := by
  have hd : decide ((a0.size : Int) = (a1.size : Int)) = false := by simp; omega
  have hne : ((a0.size : Int) != (a1.size : Int)) = true := by simp; omega
  clear he
  go_enter Tryz.func52, Tryz.ntmps52
  go_wp2
  go_ret2
  exact ⟨rfl, Below.refl _ _⟩
theorem cipher_Xor.calls (a0 : ByteArray) (a1 : ByteArray) (r1 : ByteArray) (r2 : Int) (w : World) (h : cipher_Xor.f a0 a1 = some (r1, r2)) :
    Calls Tryz.prog 52 #[.string a0, .string a1] w fun e w' => e = .returned (.tuple #[.string r1, .int .i64 r2]) ∧ Below w.heap.size w w' := by
  unfold cipher_Xor.f at h
  split at h
  · rename_i he
    split at h
    · rename_i hs
      obtain ⟨rfl, rfl⟩ := Prod.mk.inj (Option.some.inj h)
      exact xor_same a0 a1 w hs he
    · cases h
  · rename_i he
    obtain ⟨rfl, rfl⟩ := Prod.mk.inj (Option.some.inj h)
    exact xor_not a0 a1 w he
end Go.Proofs.YtkjjdodnkcmeiaaGreatDoor.PX
