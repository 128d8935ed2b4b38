/- The library functions that the pin laws reach, each with a plain Lean function and its contract: IndexByte, Join, Repeat, Trim of one byte (off the shelf), and the walks of cipher.Xor and pin.unpacked. -/
import Derived.Test.YtkjjdodnkcmeiaaGreatDoorShelf
import Derived.StillTailTactics
import Derived.Outline
import Derived.Test.YtkjjdodnkcmeiaaGreatDoorPX0
namespace Go.Proofs.YtkjjdodnkcmeiaaGreatDoor.PX
open Go.RowKit Go.Proofs.YtkjjdodnkcmeiaaGreatDoorW.PrintWords Go.Proofs.YtkjjdodnkcmeiaaGreatDoorW.PrintLast Go.Proofs.YtkjjdodnkcmeiaaGreatDoorW.PrintMore

/-! ### strings.IndexByte -/
def strings_IndexByte.f (a0 : ByteArray) (a1 : Int) : Option Int := some (Lib.indexByte a0.data.toList a1.toNat.toUInt8)
theorem strings_IndexByte.calls (a0 : ByteArray) (a1 : Int) (r : Int) (w : World) (h : strings_IndexByte.f a0 a1 = some r) :
    Calls Tryz.prog 50 #[.string a0, .int .u8 a1] w fun e w' => e = .returned (.int .i64 r) ∧ Drawn0 w w' := by
  obtain rfl := Option.some.inj h
  refine (Tryz.strings_IndexByte a0 a1 w).mono ?_
  rintro e w' ⟨rfl, rfl⟩
  exact ⟨rfl, Drawn0.refl _⟩

/-! ### strings.Join -/
def joinB (l0 : List ByteArray) (a1 : ByteArray) : List UInt8 := Lib.join (l0.map fun x => x.data.toList) a1.data.toList
def strings_Join.f (l0 : List ByteArray) (a1 : ByteArray) : Option ByteArray :=
  if l0.length ≤ 140737488355328 ∧ (joinB l0 a1).length ≤ 140737488355328 then some ⟨(joinB l0 a1).toArray⟩ else none
theorem spot_none {w : World} {a : Addr} {v : Value} (h : w.cell? a = some v) : a = ⟨a.block, a.off, none⟩ := by
  obtain ⟨b, o, s⟩ := a
  cases s with
  | none => rfl
  | some k =>
    exfalso
    unfold World.cell? at h
    dsimp only at h
    split at h <;> simp at h
theorem strings_Join.calls (A0 : Option Addr) (c0 : Nat) (l0 : List ByteArray) (a1 : ByteArray) (r : ByteArray) (w : World) (hr0 : Kd.C Kd.string w A0 l0.length l0) (hc0 : l0.length ≤ c0) (h : strings_Join.f l0 a1 = some r) :
    Calls Tryz.prog 51 #[.slice A0 l0.length c0, .string a1] w fun e w' => e = .returned (.string r) ∧ Below w.heap.size w w' := by
  unfold strings_Join.f at h
  split at h
  · rename_i hl
    obtain rfl := Option.some.inj h
    rcases Nat.eq_zero_or_pos l0.length with h0 | hp
    · obtain rfl := List.eq_nil_of_length_eq_zero h0
      refine (Tryz.strings_Join_none A0 c0 a1 w).mono ?_
      rintro e w' ⟨rfl, rfl⟩
      exact ⟨rfl, Below.refl _ _⟩
    · obtain ⟨_, _, hx⟩ := hr0
      obtain ⟨ad, rfl, hcell⟩ := hx hp
      have hcell' : ∀ (j : Nat) (x : ByteArray), l0[j]? = some x → w.cell? (ad.add j) = some (.string x) := by
        intro j x hj
        obtain ⟨c, hc1, hc2, hc3⟩ := hcell j x hj
        have hc4 : c = [.string x] := hc2
        subst hc4
        have := hc3 0 (.string x) rfl
        rw [show Kd.string.sz = 1 from rfl] at this
        simpa using this
      have h0 := hcell' 0 l0[0] (List.getElem?_eq_getElem hp)
      have hlt := World.block_lt_of_cell? w _ h0
      have had := spot_none h0
      rw [show ad.add 0 = ad from rfl] at had hlt
      generalize hb : ad.block = bk at *
      generalize ho : ad.off = o at *
      subst had
      refine (Tryz.strings_Join bk o c0 l0 a1 w ?_ hlt hl.1 hc0 hl.2).mono ?_
      · intro j x hj
        have := hcell' j x hj
        rcases j with _ | j
        · simpa [Addr.add] using this
        · simpa [Addr.add] using this
      · rintro e w' ⟨rfl, hb⟩
        exact ⟨rfl, hb⟩
  · cases h

/-! ### strings.Repeat -/
def strings_Repeat.f (a0 : ByteArray) (a1 : Int) : Option ByteArray :=
  if 0 ≤ a1 ∧ a1 ≤ 9223372036854775807 ∧ a0.size * a1.toNat ≤ 140737488355328 then some ⟨(Lib.repeatL a0.data.toList a1.toNat).toArray⟩ else none
theorem strings_Repeat.calls (a0 : ByteArray) (a1 : Int) (r : ByteArray) (w : World) (h : strings_Repeat.f a0 a1 = some r) :
    Calls Tryz.prog 23 #[.string a0, .int .i64 a1] w fun e w' => e = .returned (.string r) ∧ Below w.heap.size w w' := by
  unfold strings_Repeat.f at h
  split at h
  · rename_i hl
    obtain ⟨h0, h1, h2⟩ := hl
    obtain rfl := Option.some.inj h
    obtain ⟨n, rfl⟩ := Int.eq_ofNat_of_zero_le h0
    rw [Int.toNat_natCast] at *
    exact Tryz.strings_Repeat a0 n w (by omega) h2
  · cases h

/-! ### strings.Trim, the cutset one byte below 128 -/
def strings_Trim.f (a0 : ByteArray) (a1 : ByteArray) : Option ByteArray :=
  match a1.data.toList with
  | [c] => if c.toNat < 128 ∧ a0.size ≤ 9223372036854775807 then some ⟨(Lib.trimB a0.data.toList c).toArray⟩ else none
  | _ => none
theorem strings_Trim.calls (a0 : ByteArray) (a1 : ByteArray) (r : ByteArray) (w : World) (h : strings_Trim.f a0 a1 = some r) :
    Calls Tryz.prog 29 #[.string a0, .string a1] w fun e w' => e = .returned (.string r) ∧ Below w.heap.size w w' := by
  obtain ⟨⟨l⟩⟩ := a1
  unfold strings_Trim.f at h
  dsimp only at h
  split at h
  · rename_i c
    split at h
    · rename_i hl
      obtain rfl := Option.some.inj h
      refine (Tryz.strings_Trim_one a0 c hl.1 w hl.2).mono ?_
      rintro e w' ⟨rfl, rfl | rfl⟩
      · exact ⟨rfl, Below.refl _ _⟩
      · exact ⟨rfl, (Below.refl _ _).drew⟩
    · cases h
  · cases h
end Go.Proofs.YtkjjdodnkcmeiaaGreatDoor.PX
